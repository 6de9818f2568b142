/- Byte arrays by their lists. No program. -/
import Derived.Test.YtliofpegbcegiaaGreatDoorXa
import Derived.Shelf.Strings.Builder1
import Derived.Ground.Names2Prog
import Derived.Ground.SlgnProg
import Derived.Test.YtliofpegbcegiaaGreatDoorProg
import Derived.Test.YtliofpegbcegiaaGreatDoorXc
import Derived.WalkKit
set_option linter.unusedVariables false
set_option linter.unusedSimpArgs false
namespace Go.Proofs.YtliofpegbcegiaaGreatDoor
theorem list_cut (s : ByteArray) (a b : Nat) : (s.extract a b).data.toList = (s.data.toList.drop a).take (b - a) := by
 simp
theorem list_len (s : ByteArray) : s.data.toList.length = s.size := by simp
theorem list_front (s : ByteArray) (n : Nat) : (s.extract 0 n).data.toList = s.data.toList.take n := by
 rw [list_cut,List.drop_zero,Nat.sub_zero]
end Go.Proofs.YtliofpegbcegiaaGreatDoor
namespace Go.Proofs.YtliofpegbcegiaaGreatDoor
open Go.Gx
structure TE where
 a : Int
 b : Int
 s : ByteArray
def TE.cells (e : TE) : List Value := [.int .i64 e.a,.int .i64 e.b,.string e.s]
def tes : List TE → List Value
 | [] => []
 | e :: es => e.cells ++ tes es
theorem tes_length : ∀ es : List TE,(tes es).length = es.length * 3
 | [] => rfl
 | e :: es => by simp [tes,tes_length es,TE.cells]; omega
theorem tes_at : ∀ (es : List TE) (k : Nat) (h : k < es.length),((tes es).drop (k * 3)).take 3 = es[k].cells
 | e :: es,0,_ => by simp [tes,TE.cells]
 | e :: es,k + 1,h => by
  have : (tes (e :: es)).drop ((k + 1) * 3) = (tes es).drop (k * 3) := by
   rw [show (k + 1) * 3 = 3 + k * 3 from by omega,← List.drop_drop]; rfl
  rw [this,tes_at es k (by simpa using h)]; rfl
def lastE : Int → List TE → Int
 | p,[] => p
 | _,e :: es => lastE e.b es
def okE (n : Int) : Int → List TE → Prop
 | _,[] => True
 | p,e :: es => p < e.a ∧ e.a ≤ e.b ∧ e.b ≤ n ∧ okE n e.b es
def growE : List TE → Int
 | [] => 0
 | e :: es => (e.s.size : Int) - (e.b - e.a) + growE es
def appE (s : ByteArray) : Int → List TE → ByteArray
 | _,[] => ⟨#[]⟩
 | off,e :: es => s.extract off.toNat e.a.toNat ++ e.s ++ appE s e.b es
theorem lastE_snoc : ∀ (es : List TE) (p : Int) (e : TE),lastE p (es ++ [e]) = e.b
 | [],_,_ => rfl
 | d :: es,_,e => lastE_snoc es d.b e
theorem okE_snoc (n : Int) : ∀ (es : List TE) (p : Int) (e : TE),okE n p (es ++ [e]) ↔ okE n p es ∧ lastE p es < e.a ∧ e.a ≤ e.b ∧ e.b ≤ n
 | [],p,e => by simp [okE,lastE]
 | d :: es,p,e => by simp only [List.cons_append,okE,lastE,okE_snoc n es d.b e,and_assoc]
theorem growE_snoc : ∀ (es : List TE) (e : TE),growE (es ++ [e]) = growE es + ((e.s.size : Int) - (e.b - e.a))
 | [],e => by simp [growE]
 | d :: es,e => by simp only [List.cons_append,growE,growE_snoc es e]; omega
theorem appE_snoc (s : ByteArray) : ∀ (es : List TE) (off : Int) (e : TE),appE s off (es ++ [e]) = appE s off es ++ (s.extract (lastE off es).toNat e.a.toNat ++ e.s)
 | [],off,e => by
  show s.extract off.toNat e.a.toNat ++ e.s ++ ByteArray.empty = ByteArray.empty ++ (s.extract off.toNat e.a.toNat ++ e.s)
  rw [ByteArray.append_empty,ByteArray.empty_append]
 | d :: es,off,e => by
  simp only [List.cons_append,appE,lastE,appE_snoc s es d.b e,ByteArray.append_assoc]
theorem okE_take {n : Int} : ∀ (es : List TE) {p : Int} (k : Nat),okE n p es → okE n p (es.take k)
 | [],_,_,_ => by simp [okE]
 | e :: es,_,0,_ => by simp [okE]
 | e :: es,_,k + 1,h => ⟨h.1,h.2.1,h.2.2.1,okE_take es k h.2.2.2⟩
theorem okE_at {n : Int} {es : List TE} {p : Int} {k : Nat} (hk : k < es.length) (h : okE n p es) : lastE p (es.take k) < es[k].a ∧ es[k].a ≤ es[k].b ∧ es[k].b ≤ n := by
 have h1 := okE_take es (k + 1) h
 rw [List.take_succ_eq_append_getElem hk,okE_snoc] at h1
 exact h1.2
theorem okE_le {n : Int} : ∀ (es : List TE) {p q : Int},q ≤ p → okE n p es → okE n q es
 | [],_,_,_,h => h
 | e :: es,_,_,hq,h => ⟨by have := h.1; omega,h.2⟩
theorem lastE_le {n : Int} : ∀ (es : List TE) {p : Int},p ≤ n → okE n p es → p ≤ lastE p es ∧ lastE p es ≤ n
 | [],_,hp,h => ⟨Int.le_refl _,hp⟩
 | e :: es,p,hp,h => by
  obtain ⟨h1,h2,h3,h4⟩ := h
  have := lastE_le es h3 h4
  simp only [lastE]; omega
theorem growE_le {n B : Int} (hB : 0 ≤ B) (hn : 0 ≤ n) : ∀ (es : List TE) {p : Int},-1 ≤ p → (∀ e ∈ es,(e.s.size : Int) ≤ B) → okE n p es → -(n * es.length) ≤ growE es ∧ growE es ≤ B * es.length
 | [],_,_,_,_ => by simp [growE]
 | e :: es,p,hp,hs,h => by
  obtain ⟨h1,h2,h3,h4⟩ := h
  have := growE_le hB hn es (p := e.b) (by omega) (fun e he => hs e (List.mem_cons_of_mem _ he)) h4
  have h5 := hs e List.mem_cons_self
  simp only [growE,List.length_cons]
  have e1 : n * ((es.length + 1 : Nat) : Int) = n * es.length + n := by rw [Int.natCast_add,Int.mul_add]; simp
  have e2 : B * ((es.length + 1 : Nat) : Int) = B * es.length + B := by rw [Int.natCast_add,Int.mul_add]; simp
  rw [e1,e2]
  omega
theorem appE_size {s : ByteArray} : ∀ (es : List TE) {off : Int},0 ≤ off → off ≤ s.size → okE s.size (off - 1) es → ((appE s off es).size : Int) = lastE off es - off + growE es
 | [],off,h0,h1,h => by simp [appE,lastE,growE,ByteArray.size]
 | e :: es,off,h0,h1,h => by
  obtain ⟨h2,h3,h4,h5⟩ := h
  have := appE_size es (off := e.b) (by omega) h4 (okE_le es (by omega) h5)
  simp only [appE,lastE,growE,ByteArray.size_append,ByteArray.size_extract]
  omega
theorem appE_take (s : ByteArray) : ∀ (es : List TE) (off : Int) (k : Nat),(appE s off (es.take k)).size ≤ (appE s off es).size
 | [],_,_ => by simp
 | e :: es,_,0 => by
  simp only [List.take_zero,appE]
  exact Nat.zero_le _
 | e :: es,_,k + 1 => by
  have := appE_take s es e.b k
  simp only [List.take_succ_cons,appE,ByteArray.size_append]
  omega
open Classical in
noncomputable def codeE (n : Nat) (es : List TE) : Int := if n > 2000 ∨ es.length > 50 then 2 else if ¬ okE n (-1) es then 3 else if n + growE es > 2000 then 2 else 0
theorem codeE_zero {n : Nat} {es : List TE} (h : codeE n es = 0) : n ≤ 2000 ∧ es.length ≤ 50 ∧ okE n (-1) es ∧ n + growE es ≤ 2000 := by
 unfold codeE at h
 split at h
 ·omega
 ·split at h
  ·omega
  ·split at h
   ·omega
   ·rename_i h1 h2 h3
    exact ⟨by omega,by omega,Classical.not_not.1 h2,by omega⟩
def outE (s : ByteArray) (es : List TE) : ByteArray := appE s 0 es ++ s.extract (lastE 0 es).toNat s.size
theorem last0 {n : Int} {es : List TE} (hn : 0 ≤ n) (h : okE n (-1) es) (k : Nat) : 0 ≤ lastE 0 (es.take k) ∧ lastE 0 (es.take k) ≤ n := by
 have h1 := okE_take es k h
 cases h2 : es.take k with
 | nil => exact ⟨Int.le_refl _,hn⟩
 | cons e l =>
  rw [h2] at h1
  obtain ⟨h3,h4,h5,h6⟩ := h1
  have := lastE_le l h5 h6
  simp only [lastE]; omega
theorem outE_size {s : ByteArray} {es : List TE} (h : okE s.size (-1) es) : ((outE s es).size : Int) = s.size + growE es := by
 have h1 := appE_size es (off := 0) (Int.le_refl _) (by omega) h
 have h2 := last0 (by omega) h es.length
 rw [List.take_length] at h2
 simp only [outE,ByteArray.size_append,ByteArray.size_extract]
 omega
theorem appE_le {s : ByteArray} {es : List TE} (h : codeE s.size es = 0) (k : Nat) : (appE s 0 (es.take k)).size ≤ 2000 ∧ (outE s es).size ≤ 2000 := by
 obtain ⟨h1,h2,h3,h4⟩ := codeE_zero h
 have h5 := outE_size h3
 have h6 := appE_take s es 0 k
 have h7 : (appE s 0 es).size ≤ (outE s es).size := by simp [outE]
 omega
theorem at0 {n : Nat} {es : List TE} {k : Nat} (hk : k < es.length) (h : codeE n es = 0) : 0 ≤ lastE 0 (es.take k) ∧ lastE 0 (es.take k) ≤ es[k].a ∧ es[k].a ≤ es[k].b ∧ es[k].b ≤ n := by
 obtain ⟨h1,h2,h3,h4⟩ := codeE_zero h
 have h5 := okE_at hk h3
 have h6 := last0 (Int.natCast_nonneg n) h3 k
 cases h7 : es.take k with
 | nil =>
  rw [h7] at h5
  simp only [lastE] at h5 ⊢
  omega
 | cons e l =>
  rw [h7] at h5 h6
  simp only [lastE] at h5 h6 ⊢
  omega
end Go.Proofs.YtliofpegbcegiaaGreatDoor
namespace Go.Proofs
open Go.Shelf
def Tryz.lays169_ren : Go.Shelf.Ren := ⟨fun | 169 => 70 | n => n,fun | 70 => 118 | 9 => 9 | 0 => 0 | 72 => 121 | 37 => 119 | 127 => 147 | 3 => 3 | 5 => 5 | n => n,fun | n => n⟩
theorem Tryz.lays169 : Go.Proofs.Lays.n169 Tryz.prog Tryz.lays169_ren := {
 mixed := by kernel_rfl
 f169 := Tryz.func70.trans (congrArg some (by kernel_rfl))
 t0 := Tryz.underlying0
 a0 := Tryz.isAgg0
 z0 := Tryz.sizeOf0
 v0 := Tryz.zeroValue0
 t3 := Tryz.underlying3
 a3 := Tryz.isAgg3
 z3 := Tryz.sizeOf3
 v3 := Tryz.zeroValue3
 t9 := Tryz.underlying9
 a9 := Tryz.isAgg9
 z9 := Tryz.sizeOf9
 v9 := Tryz.zeroValue9
 t37 := Tryz.underlying119
 a37 := Tryz.isAgg119
 z37 := Tryz.sizeOf119
 v37 := Tryz.zeroValue119
 t70 := Tryz.underlying118
 a70 := Tryz.isAgg118
 z70 := Tryz.sizeOf118
 v70 := Tryz.zeroValue118
 t72 := Tryz.underlying121
 a72 := Tryz.isAgg121
 z72 := Tryz.sizeOf121
 v72 := Tryz.zeroValue121
 t127 := Tryz.underlying147
 a127 := Tryz.isAgg147
 z127 := Tryz.sizeOf147
 v127 := Tryz.zeroValue147 }
theorem Tryz.Builder_Extra_169 : Builder.Extra Tryz.prog Tryz.lays169_ren := {
 sizeBuilder := by kernel_rfl
 liesBuilder := by kernel_rfl
 t5 := Tryz.underlying5
 a5 := Tryz.isAgg5
 z5 := Tryz.sizeOf5
 v5 := Tryz.zeroValue5
 infoByte := by kernel_rfl
 cellsByte := by kernel_rfl
 sizeByte := by kernel_rfl
 neB5 := by decide }
open Go.RowKit in
theorem Tryz.Builder_String_any (B b : Nat) (l : List UInt8) (w : World) (h : Lib.IsBuilder 121 5 B b (Lib.byteCells l) w) (hBw : B ≤ w.heap.size) :
  Calls Tryz.prog 70 #[.pointer (some ⟨b,0,none⟩)] w fun e w' => e = .returned (.string ⟨l.toArray⟩) ∧ Below B w w' := Any.Builder_String_any Tryz.lays169 Tryz.Builder_Extra_169 B b l w h hBw
end Go.Proofs
namespace Go.Proofs.YtliofpegbcegiaaGreatDoor
set_option maxRecDepth 20000
open Go.Gx Go.RowKit Go.Lib
theorem lies53 : liesAt Tryz.prog Tryz.prog.depth 121 (2 / Tryz.prog.cellsOf 121) 0 121 1 = true := by kernel_rfl
theorem below_own {B : Nat} {w w' : World} {v : Value} {row : List Value} {e size n : Nat} (h : w.ownsRow B e size v n row) (hg : w.grownBy w' v.ownBlock) (hB : B ≤ w.heap.size) : Below B w w' :=
 (Below.refl B w).grown hg hB (fun k hk => (h.lt k hk).1)
theorem strCells_add (a b : ByteArray) : strCells (a ++ b) = strCells a ++ strCells b := by simp [strCells]
theorem isB_ext {B b : Nat} {bs : List Value} {w w' : World} (h : IsBuilder 121 5 B b bs w) (k : Ext w w') : IsBuilder 121 5 B b bs w' :=
 h.imp (fun ⟨hB,v,hb,hown,hne⟩ => ⟨hB,v,Var.ext (cs := [_,v]) hb k,own_ext hown k,hne⟩) (fun ⟨hB,v,hb,hown,hne⟩ => ⟨hB,v,Var.ext (cs := [_,v]) hb k,own_ext hown k,hne⟩)
def KeepV (b : Nat) (w w' : World) : Prop := ∀ c cs t,c ≠ b → t ≠ 5 → Var w c cs t → Var w' c cs t
theorem KeepV.refl (b : Nat) (w : World) : KeepV b w w := fun _ _ _ _ _ h => h
theorem KeepV.trans {b : Nat} {w w' w'' : World} (h : KeepV b w w') (k : KeepV b w' w'') : KeepV b w w'' := fun c cs t h1 h2 h3 => k c cs t h1 h2 (h c cs t h1 h2 h3)
theorem KeepV.setCell (b o : Nat) (w : World) (v : Value) : KeepV b w (w.setCell ⟨b,o,none⟩ v) := fun c cs t h1 h2 h3 => by
 unfold Var at *
 rw [Below.heap_setCell _ _ _ _ (fun e => h1 e)]
 exact h3
theorem KeepV.grown {B b n : Nat} {w w' : World} {v : Value} {xs : List Value} (h : w.ownsRow B 5 1 v n xs) (hg : w.grownBy w' v.ownBlock) : KeepV b w w' := fun c cs t h1 h2 h3 => by
 have hlt := h3.lt
 unfold Var at *
 rw [hg.block c hlt (fun e => ?_)]
 ·exact h3
 ·obtain ⟨_,h | ⟨g,cap,cur,rfl,_,hh,_⟩⟩ := h
  ·rw [h.1] at e; cases e
  ·obtain rfl : c = g := by simpa [Value.ownBlock] using e
   rw [h3] at hh
   simp only [Option.some.injEq,Obj.cells.injEq] at hh
   exact h2 hh.2.1
theorem copyCheck_k {B b : Nat} {bs : List Value} {w : World} (h : IsBuilder 121 5 B b bs w) :
  Cl Tryz.prog 87 #[.pointer (some ⟨b,0,none⟩)] w (fun u w' => u = .tuple #[] ∧ BuilderAt 121 5 B b (.pointer (some ⟨b,0,none⟩)) bs w' ∧ Below B w w' ∧ KeepV b w w') := by
 obtain ⟨j,hj,_,hjs,_⟩ := inf121
 rcases h with h | h
 ·have hc : Cells w b 0 [.pointer none] := fun i v hv => by
   match i,hv with
   | 0,hv => simp at hv; subst hv; exact h.cell0
  refine Cl.enter Tryz.func87 rfl Tryz.ntmps87 rfl rfl ?_
  refine Wp.seq (Wp.region ?_)
  refine Rg.tm trivial rfl (t_move rfl) rfl ?_
  refine Rg.tm trivial rfl (t_nilCheck rfl) rfl ?_
  refine Rg.tm trivial rfl (t_fieldAddr fa121_0 rfl) rfl ?_
  refine Rg.tm trivial rfl (t_load ty118 rfl (by apply Cells.get (i := 0); (case h => assumption); rfl)) rfl ?_
  first | refine Rg.tm trivial rfl (t_peqT pt118 rfl rfl) rfl ?_ | refine Rg.tm trivial rfl (t_peqF pt118 rfl rfl) rfl ?_
  refine Rg.done ?_
  refine Wp.condT rfl ?_
  refine Wp.region ?_
  refine Rg.tm trivial rfl (t_move rfl) rfl ?_
  refine Rg.tm trivial rfl (t_move rfl) rfl ?_
  refine Rg.wd trivial (w_toUnsafe Tryz.underlying118 Tryz.underlying163 hj (by rw [hjs]; decide) h.shape (Nat.zero_lt_succ 1) rfl) rfl ?_
  rintro _ _ ⟨rfl,rfl⟩
  refine Rg.wd trivial (w_extern Tryz.func99 (by kernel_rfl) (by kernel_rfl) (by kernel_rfl) (e := Extern.AbiNoEscape.same) (by kernel_rfl) (R := fun u w' => u = .pointer (some ⟨b,0,none⟩) ∧ w = w') rfl ⟨_,_,Lib.run_noEscape _ _,rfl,rfl⟩) rfl ?_
  rintro _ _ ⟨rfl,rfl⟩
  refine Rg.wd trivial (w_fromUnsafe Tryz.underlying163 Tryz.underlying118 hj h.shape lies53 rfl) rfl ?_
  rintro _ _ ⟨rfl,rfl⟩
  refine Rg.tm trivial rfl (t_nilCheck rfl) rfl ?_
  refine Rg.tm trivial rfl (t_fieldAddr fa121_0 rfl) rfl ?_
  refine Rg.wn trivial (w_set ty118 rfl rfl h.cell0 h.frozen0 rfl rfl) ?_
  rintro _ w2 rfl
  refine Rg.done ?_
  exact ⟨[],trivial,rfl,h.used _,(Below.refl _ _).setCell h.1 _,KeepV.setCell _ _ _ _⟩
 ·have hc : Cells w b 0 [.pointer (some ⟨b,0,none⟩)] := fun i v hv => by
   match i,hv with
   | 0,hv => simp at hv; subst hv; exact h.cell0
  refine Cl.enter Tryz.func87 rfl Tryz.ntmps87 rfl rfl ?_
  refine Wp.seq (Wp.region ?_)
  refine Rg.tm trivial rfl (t_move rfl) rfl ?_
  refine Rg.tm trivial rfl (t_nilCheck rfl) rfl ?_
  refine Rg.tm trivial rfl (t_fieldAddr fa121_0 rfl) rfl ?_
  refine Rg.tm trivial rfl (t_load ty118 rfl (by apply Cells.get (i := 0); (case h => assumption); rfl)) rfl ?_
  first | refine Rg.tm trivial rfl (t_peqT pt118 rfl rfl) rfl ?_ | refine Rg.tm trivial rfl (t_peqF pt118 rfl rfl) rfl ?_
  refine Rg.done ?_
  refine Wp.condF rfl ?_
  refine Wp.seq (Wp.region ?_)
  refine Rg.tm trivial rfl (t_move rfl) rfl ?_
  refine Rg.tm trivial rfl (t_nilCheck rfl) rfl ?_
  refine Rg.tm trivial rfl (t_fieldAddr fa121_0 rfl) rfl ?_
  refine Rg.tm trivial rfl (t_load ty118 rfl (by apply Cells.get (i := 0); (case h => assumption); rfl)) rfl ?_
  refine Rg.tm trivial rfl (t_move rfl) rfl ?_
  refine Rg.tm trivial rfl (t_pneSame Tryz.underlying118 hj rfl rfl) rfl ?_
  refine Rg.done ?_
  refine Wp.condF rfl ?_
  refine Wp.skip ?_
  exact ⟨[],trivial,rfl,h,Below.refl _ _,KeepV.refl _ _⟩
theorem writeString_k {B b : Nat} {bs : List Value} {s : ByteArray} {w : World} (h : IsBuilder 121 5 B b bs w) (hlen : bs.length + s.size ≤ 140737488355328) (hBw : B ≤ w.heap.size) :
  Cl Tryz.prog 69 #[.pointer (some ⟨b,0,none⟩),.string s] w (fun u w' => u = .tuple #[.int .i64 s.size,.nilIface] ∧ BuilderAt 121 5 B b (.pointer (some ⟨b,0,none⟩)) (bs ++ strCells s) w' ∧ Below B w w' ∧ KeepV b w w') := by
 obtain ⟨i,hi,hz,hs,hby⟩ := inf5
 refine Cl.enter Tryz.func69 rfl Tryz.ntmps69 rfl rfl ?_
 refine Wp.seq (Wp.region ?_)
 refine Rg.tm trivial rfl (t_assign rfl) rfl ?_
 refine Rg.tm trivial rfl (t_assign rfl) rfl ?_
 refine Rg.done ?_
 refine Wp.seq (Wp.region ?_)
 refine Rg.tm trivial rfl (t_move rfl) rfl ?_
 refine Rg.wd trivial (w_call Tryz.call87 rfl (copyCheck_k h)) rfl ?_
 rintro _ w1 ⟨rfl,h1,hb1,hk1⟩
 obtain ⟨hB,v,hbk,hown,hne⟩ := h1
 have hc : Cells w1 b 0 [.pointer (some ⟨b,0,none⟩),v] := Var.cells (t := 121) hbk
 have hle := hb1.size
 refine Rg.done ?_
 refine Wp.seq (Wp.region ?_)
 refine Rg.tm trivial rfl (t_move rfl) rfl ?_
 refine Rg.tm trivial rfl (t_move rfl) rfl ?_
 refine Rg.tm trivial rfl (t_nilCheck rfl) rfl ?_
 refine Rg.tm trivial rfl (t_fieldAddr fa121_1 rfl) rfl ?_
 refine Rg.tm trivial rfl (t_load ty119 rfl (by apply Cells.get (i := 1); (case h => assumption); rfl)) rfl ?_
 refine Rg.tm trivial rfl (t_move rfl) rfl ?_
 refine Rg.wd trivial (w_appendStr B Tryz.underlying119 Tryz.underlying9 hi hz hs hby rfl rfl hown hlen (by omega)) rfl ?_
 rintro v2 w2 ⟨hown2,hg,p2,l2,c2,rfl⟩
 have hlt : b < w1.heap.size := hc.lt
 have hbk2 : w2.heap[b]? = some (.cells #[.pointer (some ⟨b,0,none⟩),v] 121 (0,0)) := by rw [hg.block b hlt (fun e => hne e.symm)]; exact hbk
 have hle2 := hg.size
 refine Rg.tm trivial rfl (t_nilCheck rfl) rfl ?_
 refine Rg.tm trivial rfl (t_fieldAddr fa121_1 rfl) rfl ?_
 refine Rg.wn trivial (w_set ty119 rfl rfl (cell_of_heap hbk2 1) (frozen_of_heap hbk2 1) rfl rfl) ?_
 rintro _ w3 rfl
 refine Rg.done ?_
 refine Wp.seq (Wp.region ?_)
 refine Rg.tm trivial rfl (t_move rfl) rfl ?_
 refine Rg.tm trivial rfl (t_len Tryz.underlying9 rfl) rfl ?_
 refine Rg.tm trivial rfl (t_assign rfl) rfl ?_
 refine Rg.tm trivial rfl (t_assign rfl) rfl ?_
 refine Rg.done ?_
 refine Wp.ret ?_
 refine ⟨[_,_],⟨rfl,rfl,trivial⟩,rfl,?_,?_,?_⟩
 ·exact BuilderAt.put (T := 121) (e := 5) hB hbk2 (bs' := bs ++ strCells s) (by simpa [strCells_length] using hown2) (by decide)
 ·exact (hb1.trans (below_own hown hg (by omega))).setCell (p := ⟨b,1,none⟩) hB _
 ·exact (hk1.trans (KeepV.grown hown hg)).trans (KeepV.setCell _ _ _ _)
theorem validate_ok {s : ByteArray} {es : List TE} {w : World} {v : Value} (hs0 : SlC w v 3 es.length (tes es)) (hsz : s.size < 4611686018427387904) (hlen : es.length < 4611686018427387904) (hb : ∀ e ∈ es,(e.s.size : Int) ≤ 140737488355328) :
  Cl Tryz.prog 68 #[.string s,v] w (fun u w' => u = .int .i64 (codeE s.size es) ∧ Ext w w') := by
 have hx := Ext.refl w
 by_cases hbig : s.size > 2000 ∨ es.length > 50
 ·have e0 : codeE s.size es = 2 := by unfold codeE; rw [if_pos hbig]
  rw [e0]
  by_cases hbig1 : s.size > 2000
  all_goals
   refine Cl.enter Tryz.func68 rfl Tryz.ntmps68 rfl rfl ?_
   refine Wp.seq (Wp.region ?_)
   refine Rg.tm trivial rfl (t_assign rfl) rfl ?_
   refine Rg.done ?_
   refine Wp.seq ?_
   refine Wp.seq (Wp.region ?_)
   refine Rg.tm trivial rfl (t_move rfl) rfl ?_
   refine Rg.tm trivial rfl (t_len Tryz.underlying9 rfl) rfl ?_
   first | refine Rg.tm trivial rfl (t_gtrT rfl rfl (by omega)) rfl ?_ | refine Rg.tm trivial rfl (t_gtrF rfl rfl (by omega)) rfl ?_ | refine Rg.tm trivial rfl (t_gtr rfl rfl) rfl ?_
   refine Rg.tm trivial rfl (t_move rfl) rfl ?_
   first | refine Rg.tm ⟨_,rfl,rfl⟩ rfl (t_move rfl) rfl ?_ | refine Rg.so rfl rfl ?_
   first | refine Rg.tm ⟨_,rfl,rfl⟩ rfl (t_lenC hs0 Tryz.underlying25 rfl) rfl ?_ | refine Rg.so rfl rfl ?_
   first | refine Rg.tm ⟨_,rfl,rfl⟩ rfl (t_gtrT rfl rfl (by omega)) rfl ?_ | refine Rg.tm ⟨_,rfl,rfl⟩ rfl (t_gtrF rfl rfl (by omega)) rfl ?_ | refine Rg.tm ⟨_,rfl,rfl⟩ rfl (t_gtr rfl rfl) rfl ?_ | refine Rg.so rfl rfl ?_
   first | refine Rg.tm trivial rfl (t_pickT rfl rfl) rfl ?_ | refine Rg.tm trivial rfl (t_pickF rfl rfl) rfl ?_
   refine Rg.done ?_
   refine Wp.condT rfl ?_
   refine Wp.seq (Wp.region ?_)
   refine Rg.tm trivial rfl (t_assign rfl) rfl ?_
   refine Rg.done ?_
   refine Wp.ret ?_
   exact ⟨[_],⟨rfl,trivial⟩,rfl,hx⟩
 have n1 : s.size ≤ 2000 := by omega
 have n2 : es.length ≤ 50 := by omega
 refine Cl.enter Tryz.func68 rfl Tryz.ntmps68 rfl rfl ?_
 refine Wp.seq (Wp.region ?_)
 refine Rg.tm trivial rfl (t_assign rfl) rfl ?_
 refine Rg.done ?_
 refine Wp.seq ?_
 refine Wp.seq (Wp.region ?_)
 refine Rg.tm trivial rfl (t_move rfl) rfl ?_
 refine Rg.tm trivial rfl (t_len Tryz.underlying9 rfl) rfl ?_
 first | refine Rg.tm trivial rfl (t_gtrT rfl rfl (by omega)) rfl ?_ | refine Rg.tm trivial rfl (t_gtrF rfl rfl (by omega)) rfl ?_ | refine Rg.tm trivial rfl (t_gtr rfl rfl) rfl ?_
 refine Rg.tm trivial rfl (t_move rfl) rfl ?_
 first | refine Rg.tm ⟨_,rfl,rfl⟩ rfl (t_move rfl) rfl ?_ | refine Rg.so rfl rfl ?_
 first | refine Rg.tm ⟨_,rfl,rfl⟩ rfl (t_lenC hs0 Tryz.underlying25 rfl) rfl ?_ | refine Rg.so rfl rfl ?_
 first | refine Rg.tm ⟨_,rfl,rfl⟩ rfl (t_gtrT rfl rfl (by omega)) rfl ?_ | refine Rg.tm ⟨_,rfl,rfl⟩ rfl (t_gtrF rfl rfl (by omega)) rfl ?_ | refine Rg.tm ⟨_,rfl,rfl⟩ rfl (t_gtr rfl rfl) rfl ?_ | refine Rg.so rfl rfl ?_
 first | refine Rg.tm trivial rfl (t_pickT rfl rfl) rfl ?_ | refine Rg.tm trivial rfl (t_pickF rfl rfl) rfl ?_
 refine Rg.done ?_
 refine Wp.condF rfl ?_
 refine Wp.skip ?_
 refine Wp.seq (Wp.region ?_)
 refine Rg.tm trivial rfl (t_move rfl) rfl ?_
 refine Rg.tm trivial rfl (t_len Tryz.underlying9 rfl) rfl ?_
 refine Rg.tm trivial rfl (t_assign rfl) rfl ?_
 refine Rg.tm trivial rfl (t_assign rfl) rfl ?_
 refine Rg.done ?_
 refine Wp.seq ?_
 refine Wp.seq (Wp.region ?_)
 refine Rg.tm trivial rfl (t_move rfl) rfl ?_
 refine Rg.tm trivial rfl (t_lenC hs0 Tryz.underlying25 rfl) rfl ?_
 refine Rg.tm trivial rfl (t_move rfl) rfl ?_
 refine Rg.done ?_
 refine Wp.block ?_
 refine Wp.loop (ι := Nat) (fun k => [(0,.string s),(1,v),(5,.int .i64 (lastE (-1) (es.take k))),(6,.int .i64 (s.size + growE (es.take k))),(19,v),(20,.int .i64 es.length),(21,.int .i64 k)])
  (fun k w' => k ≤ es.length ∧ okE s.size (-1) (es.take k) ∧ Ext w w')
  (fun k => es.length - k) 0 (by repeat (first | exact .nil | refine .cons (by first | rfl | simp [growE,lastE]) ?_)) ⟨Nat.zero_le _,trivial,hx⟩ ?_
 clear hx
 rintro k w3 ⟨hk,hok,hx⟩
 have gl := growE_le (n := s.size) (B := 140737488355328) (by omega) (by omega) (es.take k) (p := -1) (by omega) (fun e he => hb e (List.mem_of_mem_take he)) hok
 rw [List.length_take_of_le hk] at gl
 have gl2 : -102400 ≤ growE (es.take k) ∧ growE (es.take k) ≤ 7036874417766400 := by
  have q1 : (s.size : Int) * (k : Int) ≤ 2000 * 50 := Int.mul_le_mul (by omega) (by omega) (by omega) (by omega)
  have q2 : (140737488355328 : Int) * k ≤ 140737488355328 * 50 := by omega
  omega
 have ll := lastE_le (n := s.size) (es.take k) (p := -1) (by omega) hok
 by_cases hlt : k < es.length
 ·have kle := hx.le
  refine Wp.seq (Wp.region ?_)
  first | refine Rg.tm trivial rfl (t_lssT rfl rfl (by omega)) rfl ?_ | refine Rg.tm trivial rfl (t_lssF rfl rfl (by omega)) rfl ?_ | refine Rg.tm trivial rfl (t_lss rfl rfl) rfl ?_
  refine Rg.done ?_
  refine Wp.seq ?_
  refine Wp.condT rfl ?_
  refine Wp.skip ?_
  refine Wp.seq ?_
  refine Wp.block ?_
  refine Wp.seq (Wp.region ?_)
  refine Rg.ix hs0 trivial rfl rfl Tryz.underlying25 ty123 (by omega) rfl ?_
  intro bt23 ot23 ht23
  replace ht23 := ht23.ext hx
  rw [Int.toNat_natCast,tes_at es k hlt] at ht23
  have hbk := hb _ (List.getElem_mem hlt)
  obtain ⟨e,he⟩ : ∃ e,es[k] = e := ⟨_,rfl⟩
  rw [he] at ht23 hbk
  unfold TE.cells at ht23
  refine Rg.tm trivial rfl (t_loadA rfl ht23 ty123) rfl ?_
  refine Rg.wd trivial (w_new Tryz.zeroValue123 rfl) rfl ?_
  rintro _ w1 ⟨b8,rfl,qb8,hx1,hv8⟩
  replace hx := hx.ext hx1
  replace ht23 := ht23.ext hx1
  refine Rg.wn trivial (w_put hv8 rfl rfl rfl ty123 rfl rfl) ?_
  rintro _ w70 ⟨hu,hv8'⟩
  replace hx := hx.upd hu (by omega)
  clear hv8 hu ht23
  have hc8 := hv8'.cells
  clear hv8'
  refine Rg.done ?_
  refine Wp.seq ?_
  by_cases hok2 : lastE (-1) (es.take k) < e.a ∧ e.a ≤ e.b ∧ e.b ≤ s.size
  ·obtain ⟨o1,o2,o3⟩ := hok2
   refine Wp.seq (Wp.region ?_)
   refine Rg.tm trivial rfl (t_fieldAddr fa123_0 rfl) rfl ?_
   refine Rg.tm trivial rfl (t_load ty3 rfl (by apply Cells.get (i := 0); (case h => assumption); rfl)) rfl ?_
   refine Rg.tm trivial rfl (t_move rfl) rfl ?_
   first | refine Rg.tm trivial rfl (t_leqT rfl rfl (by omega)) rfl ?_ | refine Rg.tm trivial rfl (t_leqF rfl rfl (by omega)) rfl ?_ | refine Rg.tm trivial rfl (t_leq rfl rfl) rfl ?_
   refine Rg.tm trivial rfl (t_move rfl) rfl ?_
   first | refine Rg.tm ⟨_,rfl,rfl⟩ rfl (t_fieldAddr fa123_1 rfl) rfl ?_ | refine Rg.so rfl rfl ?_
   first | refine Rg.tm ⟨_,rfl,rfl⟩ rfl (t_load ty3 rfl (by apply Cells.get (i := 1); (case h => assumption); rfl)) rfl ?_ | refine Rg.so rfl rfl ?_
   first | refine Rg.tm ⟨_,rfl,rfl⟩ rfl (t_fieldAddr fa123_0 rfl) rfl ?_ | refine Rg.so rfl rfl ?_
   first | refine Rg.tm ⟨_,rfl,rfl⟩ rfl (t_load ty3 rfl (by apply Cells.get (i := 0); (case h => assumption); rfl)) rfl ?_ | refine Rg.so rfl rfl ?_
   first | refine Rg.tm ⟨_,rfl,rfl⟩ rfl (t_lssT rfl rfl (by omega)) rfl ?_ | refine Rg.tm ⟨_,rfl,rfl⟩ rfl (t_lssF rfl rfl (by omega)) rfl ?_ | refine Rg.tm ⟨_,rfl,rfl⟩ rfl (t_lss rfl rfl) rfl ?_ | refine Rg.so rfl rfl ?_
   first | refine Rg.tm trivial rfl (t_pickT rfl rfl) rfl ?_ | refine Rg.tm trivial rfl (t_pickF rfl rfl) rfl ?_
   refine Rg.tm trivial rfl (t_move rfl) rfl ?_
   first | refine Rg.tm ⟨_,rfl,rfl⟩ rfl (t_fieldAddr fa123_1 rfl) rfl ?_ | refine Rg.so rfl rfl ?_
   first | refine Rg.tm ⟨_,rfl,rfl⟩ rfl (t_load ty3 rfl (by apply Cells.get (i := 1); (case h => assumption); rfl)) rfl ?_ | refine Rg.so rfl rfl ?_
   first | refine Rg.tm ⟨_,rfl,rfl⟩ rfl (t_move rfl) rfl ?_ | refine Rg.so rfl rfl ?_
   first | refine Rg.tm ⟨_,rfl,rfl⟩ rfl (t_len Tryz.underlying9 rfl) rfl ?_ | refine Rg.so rfl rfl ?_
   first | refine Rg.tm ⟨_,rfl,rfl⟩ rfl (t_gtrT rfl rfl (by omega)) rfl ?_ | refine Rg.tm ⟨_,rfl,rfl⟩ rfl (t_gtrF rfl rfl (by omega)) rfl ?_ | refine Rg.tm ⟨_,rfl,rfl⟩ rfl (t_gtr rfl rfl) rfl ?_ | refine Rg.so rfl rfl ?_
   first | refine Rg.tm trivial rfl (t_pickT rfl rfl) rfl ?_ | refine Rg.tm trivial rfl (t_pickF rfl rfl) rfl ?_
   refine Rg.done ?_
   refine Wp.condF rfl ?_
   refine Wp.skip ?_
   refine Wp.seq (Wp.region ?_)
   refine Rg.tm trivial rfl (t_fieldAddr fa123_1 rfl) rfl ?_
   refine Rg.tm trivial rfl (t_load ty3 rfl (by apply Cells.get (i := 1); (case h => assumption); rfl)) rfl ?_
   refine Rg.tm trivial rfl (t_assign rfl) rfl ?_
   refine Rg.done ?_
   refine Wp.region ?_
   refine Rg.tm trivial rfl (t_move rfl) rfl ?_
   refine Rg.tm trivial rfl (t_fieldAddr fa123_2 rfl) rfl ?_
   refine Rg.tm trivial rfl (t_load ty9 rfl (by apply Cells.get (i := 2); (case h => assumption); rfl)) rfl ?_
   refine Rg.tm trivial rfl (t_len Tryz.underlying9 rfl) rfl ?_
   refine Rg.tm trivial rfl (t_fieldAddr fa123_1 rfl) rfl ?_
   refine Rg.tm trivial rfl (t_load ty3 rfl (by apply Cells.get (i := 1); (case h => assumption); rfl)) rfl ?_
   refine Rg.tm trivial rfl (t_fieldAddr fa123_0 rfl) rfl ?_
   refine Rg.tm trivial rfl (t_load ty3 rfl (by apply Cells.get (i := 0); (case h => assumption); rfl)) rfl ?_
   first | refine Rg.tm trivial rfl (t_subI rfl rfl (by omega)) rfl ?_ | refine Rg.tm trivial rfl (t_sub rfl rfl) rfl ?_
   first | refine Rg.tm trivial rfl (t_subI rfl rfl (by omega)) rfl ?_ | refine Rg.tm trivial rfl (t_sub rfl rfl) rfl ?_
   first | refine Rg.tm trivial rfl (t_addI rfl rfl (by omega)) rfl ?_ | refine Rg.tm trivial rfl (t_add rfl rfl) rfl ?_
   refine Rg.tm trivial rfl (t_assign rfl) rfl ?_
   refine Rg.done ?_
   refine Wp.region ?_
   first | refine Rg.tm trivial rfl (t_addI rfl rfl (by omega)) rfl ?_ | refine Rg.tm trivial rfl (t_add rfl rfl) rfl ?_
   refine Rg.tm trivial rfl (t_move rfl) rfl ?_
   refine Rg.done ?_
   refine ⟨k + 1,?_,⟨hlt,?_,hx⟩,by omega⟩
   ·rw [List.take_succ_eq_append_getElem hlt,lastE_snoc,growE_snoc,he,← Int.add_assoc]
    repeat (first | exact .nil | refine .cons rfl ?_)
   ·rw [List.take_succ_eq_append_getElem hlt,okE_snoc,he]
    exact ⟨hok,o1,o2,o3⟩
  ·have e0 : codeE s.size es = 3 := by
    unfold codeE
    rw [if_neg (by omega),if_pos]
    intro hall
    have := okE_at hlt hall
    rw [he] at this
    exact hok2 this
   rw [e0]
   by_cases hA : e.a ≤ lastE (-1) (es.take k)
   ·skip
    refine Wp.seq (Wp.region ?_)
    refine Rg.tm trivial rfl (t_fieldAddr fa123_0 rfl) rfl ?_
    refine Rg.tm trivial rfl (t_load ty3 rfl (by apply Cells.get (i := 0); (case h => assumption); rfl)) rfl ?_
    refine Rg.tm trivial rfl (t_move rfl) rfl ?_
    first | refine Rg.tm trivial rfl (t_leqT rfl rfl (by omega)) rfl ?_ | refine Rg.tm trivial rfl (t_leqF rfl rfl (by omega)) rfl ?_ | refine Rg.tm trivial rfl (t_leq rfl rfl) rfl ?_
    refine Rg.tm trivial rfl (t_move rfl) rfl ?_
    first | refine Rg.tm ⟨_,rfl,rfl⟩ rfl (t_fieldAddr fa123_1 rfl) rfl ?_ | refine Rg.so rfl rfl ?_
    first | refine Rg.tm ⟨_,rfl,rfl⟩ rfl (t_load ty3 rfl (by apply Cells.get (i := 1); (case h => assumption); rfl)) rfl ?_ | refine Rg.so rfl rfl ?_
    first | refine Rg.tm ⟨_,rfl,rfl⟩ rfl (t_fieldAddr fa123_0 rfl) rfl ?_ | refine Rg.so rfl rfl ?_
    first | refine Rg.tm ⟨_,rfl,rfl⟩ rfl (t_load ty3 rfl (by apply Cells.get (i := 0); (case h => assumption); rfl)) rfl ?_ | refine Rg.so rfl rfl ?_
    first | refine Rg.tm ⟨_,rfl,rfl⟩ rfl (t_lssT rfl rfl (by omega)) rfl ?_ | refine Rg.tm ⟨_,rfl,rfl⟩ rfl (t_lssF rfl rfl (by omega)) rfl ?_ | refine Rg.tm ⟨_,rfl,rfl⟩ rfl (t_lss rfl rfl) rfl ?_ | refine Rg.so rfl rfl ?_
    first | refine Rg.tm trivial rfl (t_pickT rfl rfl) rfl ?_ | refine Rg.tm trivial rfl (t_pickF rfl rfl) rfl ?_
    refine Rg.tm trivial rfl (t_move rfl) rfl ?_
    first | refine Rg.tm ⟨_,rfl,rfl⟩ rfl (t_fieldAddr fa123_1 rfl) rfl ?_ | refine Rg.so rfl rfl ?_
    first | refine Rg.tm ⟨_,rfl,rfl⟩ rfl (t_load ty3 rfl (by apply Cells.get (i := 1); (case h => assumption); rfl)) rfl ?_ | refine Rg.so rfl rfl ?_
    first | refine Rg.tm ⟨_,rfl,rfl⟩ rfl (t_move rfl) rfl ?_ | refine Rg.so rfl rfl ?_
    first | refine Rg.tm ⟨_,rfl,rfl⟩ rfl (t_len Tryz.underlying9 rfl) rfl ?_ | refine Rg.so rfl rfl ?_
    first | refine Rg.tm ⟨_,rfl,rfl⟩ rfl (t_gtrT rfl rfl (by omega)) rfl ?_ | refine Rg.tm ⟨_,rfl,rfl⟩ rfl (t_gtrF rfl rfl (by omega)) rfl ?_ | refine Rg.tm ⟨_,rfl,rfl⟩ rfl (t_gtr rfl rfl) rfl ?_ | refine Rg.so rfl rfl ?_
    first | refine Rg.tm trivial rfl (t_pickT rfl rfl) rfl ?_ | refine Rg.tm trivial rfl (t_pickF rfl rfl) rfl ?_
    refine Rg.done ?_
    refine Wp.condT rfl ?_
    refine Wp.seq (Wp.region ?_)
    refine Rg.tm trivial rfl (t_assign rfl) rfl ?_
    refine Rg.done ?_
    refine Wp.ret ?_
    exact ⟨[_],⟨rfl,trivial⟩,rfl,hx⟩
   ·by_cases hB : e.b < e.a
    ·skip
     refine Wp.seq (Wp.region ?_)
     refine Rg.tm trivial rfl (t_fieldAddr fa123_0 rfl) rfl ?_
     refine Rg.tm trivial rfl (t_load ty3 rfl (by apply Cells.get (i := 0); (case h => assumption); rfl)) rfl ?_
     refine Rg.tm trivial rfl (t_move rfl) rfl ?_
     first | refine Rg.tm trivial rfl (t_leqT rfl rfl (by omega)) rfl ?_ | refine Rg.tm trivial rfl (t_leqF rfl rfl (by omega)) rfl ?_ | refine Rg.tm trivial rfl (t_leq rfl rfl) rfl ?_
     refine Rg.tm trivial rfl (t_move rfl) rfl ?_
     first | refine Rg.tm ⟨_,rfl,rfl⟩ rfl (t_fieldAddr fa123_1 rfl) rfl ?_ | refine Rg.so rfl rfl ?_
     first | refine Rg.tm ⟨_,rfl,rfl⟩ rfl (t_load ty3 rfl (by apply Cells.get (i := 1); (case h => assumption); rfl)) rfl ?_ | refine Rg.so rfl rfl ?_
     first | refine Rg.tm ⟨_,rfl,rfl⟩ rfl (t_fieldAddr fa123_0 rfl) rfl ?_ | refine Rg.so rfl rfl ?_
     first | refine Rg.tm ⟨_,rfl,rfl⟩ rfl (t_load ty3 rfl (by apply Cells.get (i := 0); (case h => assumption); rfl)) rfl ?_ | refine Rg.so rfl rfl ?_
     first | refine Rg.tm ⟨_,rfl,rfl⟩ rfl (t_lssT rfl rfl (by omega)) rfl ?_ | refine Rg.tm ⟨_,rfl,rfl⟩ rfl (t_lssF rfl rfl (by omega)) rfl ?_ | refine Rg.tm ⟨_,rfl,rfl⟩ rfl (t_lss rfl rfl) rfl ?_ | refine Rg.so rfl rfl ?_
     first | refine Rg.tm trivial rfl (t_pickT rfl rfl) rfl ?_ | refine Rg.tm trivial rfl (t_pickF rfl rfl) rfl ?_
     refine Rg.tm trivial rfl (t_move rfl) rfl ?_
     first | refine Rg.tm ⟨_,rfl,rfl⟩ rfl (t_fieldAddr fa123_1 rfl) rfl ?_ | refine Rg.so rfl rfl ?_
     first | refine Rg.tm ⟨_,rfl,rfl⟩ rfl (t_load ty3 rfl (by apply Cells.get (i := 1); (case h => assumption); rfl)) rfl ?_ | refine Rg.so rfl rfl ?_
     first | refine Rg.tm ⟨_,rfl,rfl⟩ rfl (t_move rfl) rfl ?_ | refine Rg.so rfl rfl ?_
     first | refine Rg.tm ⟨_,rfl,rfl⟩ rfl (t_len Tryz.underlying9 rfl) rfl ?_ | refine Rg.so rfl rfl ?_
     first | refine Rg.tm ⟨_,rfl,rfl⟩ rfl (t_gtrT rfl rfl (by omega)) rfl ?_ | refine Rg.tm ⟨_,rfl,rfl⟩ rfl (t_gtrF rfl rfl (by omega)) rfl ?_ | refine Rg.tm ⟨_,rfl,rfl⟩ rfl (t_gtr rfl rfl) rfl ?_ | refine Rg.so rfl rfl ?_
     first | refine Rg.tm trivial rfl (t_pickT rfl rfl) rfl ?_ | refine Rg.tm trivial rfl (t_pickF rfl rfl) rfl ?_
     refine Rg.done ?_
     refine Wp.condT rfl ?_
     refine Wp.seq (Wp.region ?_)
     refine Rg.tm trivial rfl (t_assign rfl) rfl ?_
     refine Rg.done ?_
     refine Wp.ret ?_
     exact ⟨[_],⟨rfl,trivial⟩,rfl,hx⟩
    ·have hC : e.b > s.size := by omega
     refine Wp.seq (Wp.region ?_)
     refine Rg.tm trivial rfl (t_fieldAddr fa123_0 rfl) rfl ?_
     refine Rg.tm trivial rfl (t_load ty3 rfl (by apply Cells.get (i := 0); (case h => assumption); rfl)) rfl ?_
     refine Rg.tm trivial rfl (t_move rfl) rfl ?_
     first | refine Rg.tm trivial rfl (t_leqT rfl rfl (by omega)) rfl ?_ | refine Rg.tm trivial rfl (t_leqF rfl rfl (by omega)) rfl ?_ | refine Rg.tm trivial rfl (t_leq rfl rfl) rfl ?_
     refine Rg.tm trivial rfl (t_move rfl) rfl ?_
     first | refine Rg.tm ⟨_,rfl,rfl⟩ rfl (t_fieldAddr fa123_1 rfl) rfl ?_ | refine Rg.so rfl rfl ?_
     first | refine Rg.tm ⟨_,rfl,rfl⟩ rfl (t_load ty3 rfl (by apply Cells.get (i := 1); (case h => assumption); rfl)) rfl ?_ | refine Rg.so rfl rfl ?_
     first | refine Rg.tm ⟨_,rfl,rfl⟩ rfl (t_fieldAddr fa123_0 rfl) rfl ?_ | refine Rg.so rfl rfl ?_
     first | refine Rg.tm ⟨_,rfl,rfl⟩ rfl (t_load ty3 rfl (by apply Cells.get (i := 0); (case h => assumption); rfl)) rfl ?_ | refine Rg.so rfl rfl ?_
     first | refine Rg.tm ⟨_,rfl,rfl⟩ rfl (t_lssT rfl rfl (by omega)) rfl ?_ | refine Rg.tm ⟨_,rfl,rfl⟩ rfl (t_lssF rfl rfl (by omega)) rfl ?_ | refine Rg.tm ⟨_,rfl,rfl⟩ rfl (t_lss rfl rfl) rfl ?_ | refine Rg.so rfl rfl ?_
     first | refine Rg.tm trivial rfl (t_pickT rfl rfl) rfl ?_ | refine Rg.tm trivial rfl (t_pickF rfl rfl) rfl ?_
     refine Rg.tm trivial rfl (t_move rfl) rfl ?_
     first | refine Rg.tm ⟨_,rfl,rfl⟩ rfl (t_fieldAddr fa123_1 rfl) rfl ?_ | refine Rg.so rfl rfl ?_
     first | refine Rg.tm ⟨_,rfl,rfl⟩ rfl (t_load ty3 rfl (by apply Cells.get (i := 1); (case h => assumption); rfl)) rfl ?_ | refine Rg.so rfl rfl ?_
     first | refine Rg.tm ⟨_,rfl,rfl⟩ rfl (t_move rfl) rfl ?_ | refine Rg.so rfl rfl ?_
     first | refine Rg.tm ⟨_,rfl,rfl⟩ rfl (t_len Tryz.underlying9 rfl) rfl ?_ | refine Rg.so rfl rfl ?_
     first | refine Rg.tm ⟨_,rfl,rfl⟩ rfl (t_gtrT rfl rfl (by omega)) rfl ?_ | refine Rg.tm ⟨_,rfl,rfl⟩ rfl (t_gtrF rfl rfl (by omega)) rfl ?_ | refine Rg.tm ⟨_,rfl,rfl⟩ rfl (t_gtr rfl rfl) rfl ?_ | refine Rg.so rfl rfl ?_
     first | refine Rg.tm trivial rfl (t_pickT rfl rfl) rfl ?_ | refine Rg.tm trivial rfl (t_pickF rfl rfl) rfl ?_
     refine Rg.done ?_
     refine Wp.condT rfl ?_
     refine Wp.seq (Wp.region ?_)
     refine Rg.tm trivial rfl (t_assign rfl) rfl ?_
     refine Rg.done ?_
     refine Wp.ret ?_
     exact ⟨[_],⟨rfl,trivial⟩,rfl,hx⟩
 ·have e0 : k = es.length := by omega
  subst e0
  simp only [List.take_length] at *
  by_cases hover : (s.size : Int) + growE es > 2000
  ·have e1 : codeE s.size es = 2 := by
    unfold codeE
    rw [if_neg (by omega),if_neg (fun h => h hok),if_pos hover]
   rw [e1]
   refine Wp.seq (Wp.region ?_)
   first | refine Rg.tm trivial rfl (t_lssT rfl rfl (by omega)) rfl ?_ | refine Rg.tm trivial rfl (t_lssF rfl rfl (by omega)) rfl ?_ | refine Rg.tm trivial rfl (t_lss rfl rfl) rfl ?_
   refine Rg.done ?_
   refine Wp.seq ?_
   refine Wp.condF rfl ?_
   refine Wp.exit ?_
   refine Wp.seq ?_
   refine Wp.seq (Wp.region ?_)
   refine Rg.tm trivial rfl (t_move rfl) rfl ?_
   first | refine Rg.tm trivial rfl (t_gtrT rfl rfl (by omega)) rfl ?_ | refine Rg.tm trivial rfl (t_gtrF rfl rfl (by omega)) rfl ?_ | refine Rg.tm trivial rfl (t_gtr rfl rfl) rfl ?_
   refine Rg.done ?_
   refine Wp.condT rfl ?_
   refine Wp.seq (Wp.region ?_)
   refine Rg.tm trivial rfl (t_assign rfl) rfl ?_
   refine Rg.done ?_
   refine Wp.ret ?_
   exact ⟨[_],⟨rfl,trivial⟩,rfl,hx⟩
  ·have e1 : codeE s.size es = 0 := by
    unfold codeE
    rw [if_neg (by omega),if_neg (fun h => h hok),if_neg hover]
   rw [e1]
   refine Wp.seq (Wp.region ?_)
   first | refine Rg.tm trivial rfl (t_lssT rfl rfl (by omega)) rfl ?_ | refine Rg.tm trivial rfl (t_lssF rfl rfl (by omega)) rfl ?_ | refine Rg.tm trivial rfl (t_lss rfl rfl) rfl ?_
   refine Rg.done ?_
   refine Wp.seq ?_
   refine Wp.condF rfl ?_
   refine Wp.exit ?_
   refine Wp.seq ?_
   refine Wp.seq (Wp.region ?_)
   refine Rg.tm trivial rfl (t_move rfl) rfl ?_
   first | refine Rg.tm trivial rfl (t_gtrT rfl rfl (by omega)) rfl ?_ | refine Rg.tm trivial rfl (t_gtrF rfl rfl (by omega)) rfl ?_ | refine Rg.tm trivial rfl (t_gtr rfl rfl) rfl ?_
   refine Rg.done ?_
   refine Wp.condF rfl ?_
   refine Wp.skip ?_
   refine Wp.seq (Wp.region ?_)
   refine Rg.tm trivial rfl (t_assign rfl) rfl ?_
   refine Rg.done ?_
   refine Wp.ret ?_
   exact ⟨[_],⟨rfl,trivial⟩,rfl,hx⟩
theorem textApply_no {s : ByteArray} {es : List TE} {w : World} {v : Value} (hs0 : SlC w v 3 es.length (tes es)) (hlen : es.length < 4611686018427387904) (hb : ∀ e ∈ es,(e.s.size : Int) ≤ 140737488355328) (hsz : s.size < 4611686018427387904) (hn : codeE s.size es ≠ 0) :
  Cl Tryz.prog 52 #[.string s,v] w (fun u w' => u = .tuple #[.string ⟨#[]⟩,.int .i64 (codeE s.size es)] ∧ Ext w w') := by
 have hx := Ext.refl w
 refine Cl.enter Tryz.func52 rfl Tryz.ntmps52 rfl rfl ?_
 refine Wp.seq (Wp.region ?_)
 refine Rg.tm trivial rfl (t_assign rfl) rfl ?_
 refine Rg.tm trivial rfl (t_assign rfl) rfl ?_
 refine Rg.done ?_
 refine Wp.seq ?_
 refine Wp.seq (Wp.region ?_)
 refine Rg.tm trivial rfl (t_move rfl) rfl ?_
 refine Rg.tm trivial rfl (t_move rfl) rfl ?_
 refine Rg.wd trivial (w_call Tryz.call68 rfl (validate_ok hs0 hsz hlen hb)) rfl ?_
 rintro _ w1 ⟨rfl,hx1⟩
 replace hx := hx.ext hx1
 refine Rg.tm trivial rfl (t_assign rfl) rfl ?_
 refine Rg.done ?_
 refine Wp.seq (Wp.region ?_)
 refine Rg.tm trivial rfl (t_move rfl) rfl ?_
 first | refine Rg.tm trivial rfl (t_neqT rfl rfl (by omega)) rfl ?_ | refine Rg.tm trivial rfl (t_neqF rfl rfl (by omega)) rfl ?_ | refine Rg.tm trivial rfl (t_neq rfl rfl) rfl ?_
 refine Rg.done ?_
 refine Wp.condT rfl ?_
 refine Wp.seq (Wp.region ?_)
 refine Rg.tm trivial rfl (t_move rfl) rfl ?_
 refine Rg.tm trivial rfl (t_assign rfl) rfl ?_
 refine Rg.tm trivial rfl (t_assign rfl) rfl ?_
 refine Rg.done ?_
 refine Wp.ret ?_
 exact ⟨[_,_],⟨rfl,rfl,trivial⟩,rfl,hx⟩
theorem textApply_ok {s : ByteArray} {es : List TE} {w : World} {v : Value} (hs0 : SlC w v 3 es.length (tes es)) (hlen : es.length < 4611686018427387904) (hb : ∀ e ∈ es,(e.s.size : Int) ≤ 140737488355328) (h0 : codeE s.size es = 0) :
  Cl Tryz.prog 52 #[.string s,v] w (fun u w' => u = .tuple #[.string (outE s es),.int .i64 0] ∧ Ext w w') := by
 have hx := Ext.refl w
 obtain ⟨z1,z2,z3,z4⟩ := codeE_zero h0
 refine Cl.enter Tryz.func52 rfl Tryz.ntmps52 rfl rfl ?_
 refine Wp.seq (Wp.region ?_)
 refine Rg.tm trivial rfl (t_assign rfl) rfl ?_
 refine Rg.tm trivial rfl (t_assign rfl) rfl ?_
 refine Rg.done ?_
 refine Wp.seq ?_
 refine Wp.seq (Wp.region ?_)
 refine Rg.tm trivial rfl (t_move rfl) rfl ?_
 refine Rg.tm trivial rfl (t_move rfl) rfl ?_
 refine Rg.wd trivial (w_call Tryz.call68 rfl (validate_ok hs0 (by omega) hlen hb)) rfl ?_
 rintro _ w1 ⟨rfl,hx1⟩
 replace hx := hx.ext hx1
 rw [h0]
 refine Rg.tm trivial rfl (t_assign rfl) rfl ?_
 refine Rg.done ?_
 refine Wp.seq (Wp.region ?_)
 refine Rg.tm trivial rfl (t_move rfl) rfl ?_
 first | refine Rg.tm trivial rfl (t_neqT rfl rfl (by omega)) rfl ?_ | refine Rg.tm trivial rfl (t_neqF rfl rfl (by omega)) rfl ?_ | refine Rg.tm trivial rfl (t_neq rfl rfl) rfl ?_
 refine Rg.done ?_
 refine Wp.condF rfl ?_
 refine Wp.skip ?_
 refine Wp.seq (Wp.region ?_)
 refine Rg.wd trivial (w_new Tryz.zeroValue121 rfl) rfl ?_
 rintro _ w2 ⟨b7,rfl,qb7,hx2,hv7⟩
 replace hx := hx.ext hx2
 have hB : IsBuilder 121 5 w.heap.size b7 [] w2 := .inl ⟨by have := hx1.le; omega,_,hv7,⟨rfl,.inl ⟨rfl,rfl⟩⟩,by simp [Value.ownBlock]⟩
 have lt7 := hv7.lt
 refine Rg.done ?_
 refine Wp.seq (Wp.region ?_)
 refine Rg.tm trivial rfl (t_assign rfl) rfl ?_
 refine Rg.done ?_
 refine Wp.seq ?_
 refine Wp.seq (Wp.region ?_)
 refine Rg.tm trivial rfl (t_move rfl) rfl ?_
 refine Rg.tm trivial rfl (t_lenC hs0 Tryz.underlying25 rfl) rfl ?_
 refine Rg.tm trivial rfl (t_move rfl) rfl ?_
 refine Rg.done ?_
 refine Wp.block ?_
 refine Wp.loop (ι := Nat) (fun k => [(0,.string s),(1,v),(7,.pointer (some ⟨b7,0,none⟩)),(8,.int .i64 (lastE 0 (es.take k))),(17,v),(18,.int .i64 es.length),(19,.int .i64 k)])
  (fun k w' => k ≤ es.length ∧ IsBuilder 121 5 w.heap.size b7 (strCells (appE s 0 (es.take k))) w' ∧ b7 < w'.heap.size ∧ Ext w w')
  (fun k => es.length - k) 0 (by repeat (first | exact .nil | refine .cons rfl ?_)) ⟨Nat.zero_le _,hB,lt7,hx⟩ ?_
 clear hx hB lt7 hv7 hx1 hx2
 rintro k w3 ⟨hk,hB,lt7,hx⟩
 by_cases hlt : k < es.length
 ·skip
  refine Wp.seq (Wp.region ?_)
  first | refine Rg.tm trivial rfl (t_lssT rfl rfl (by omega)) rfl ?_ | refine Rg.tm trivial rfl (t_lssF rfl rfl (by omega)) rfl ?_ | refine Rg.tm trivial rfl (t_lss rfl rfl) rfl ?_
  refine Rg.done ?_
  refine Wp.seq ?_
  refine Wp.condT rfl ?_
  refine Wp.skip ?_
  refine Wp.seq ?_
  refine Wp.block ?_
  refine Wp.seq (Wp.region ?_)
  refine Rg.ix hs0 trivial rfl rfl Tryz.underlying25 ty123 (by omega) rfl ?_
  intro bt21 ot21 ht21
  replace ht21 := ht21.ext hx
  rw [Int.toNat_natCast,tes_at es k hlt] at ht21
  obtain ⟨p1,p2,p3,p4⟩ := at0 hlt h0
  have p5 := appE_le h0 (k + 1)
  have p6 := List.take_succ_eq_append_getElem hlt
  rw [p6,appE_snoc,ByteArray.size_append,ByteArray.size_append] at p5
  obtain ⟨e,he⟩ : ∃ e,es[k] = e := ⟨_,rfl⟩
  rw [he] at ht21 p2 p3 p4 p5 p6
  unfold TE.cells at ht21
  refine Rg.tm trivial rfl (t_loadA rfl ht21 ty123) rfl ?_
  refine Rg.wd trivial (w_new Tryz.zeroValue123 rfl) rfl ?_
  rintro _ wa ⟨b10,rfl,qb10,hxa,hva⟩
  refine Rg.wn trivial (w_put hva rfl rfl rfl ty123 rfl rfl) ?_
  rintro _ w3 ⟨hu,hvb10⟩
  have hx3 := hxa.upd hu (Nat.le_of_eq qb10.symm)
  replace hx := hx.ext hx3
  replace hB := isB_ext hB hx3
  have hcb10 := hvb10.cells
  clear hva hu
  refine Rg.done ?_
  refine Wp.seq (Wp.draw [0,1,2,3,4,5,6,7,8] [0] mixed (by kernel_rfl) (by kernel_rfl) ?_)
  intro w4 hx4 _
  replace hx := hx.ext hx4
  replace hcb10 := hcb10.ext hx4
  replace hB := isB_ext hB hx4
  replace hvb10 := hvb10.ext hx4
  refine Rg.tm trivial rfl (t_move rfl) rfl ?_
  refine Rg.tm trivial rfl (t_move rfl) rfl ?_
  refine Rg.tm trivial rfl (t_fieldAddr fa123_0 rfl) rfl ?_
  refine Rg.tm trivial rfl (t_load ty3 rfl (by apply Cells.get (i := 0); (case h => assumption); rfl)) rfl ?_
  refine Rg.tm trivial rfl (t_sliceS Tryz.underlying9 rfl rfl rfl (by omega)) rfl ?_
  refine Rg.tm trivial rfl (t_fieldAddr fa123_2 rfl) rfl ?_
  refine Rg.tm trivial rfl (t_load ty9 rfl (by apply Cells.get (i := 2); (case h => assumption); rfl)) rfl ?_
  refine Rg.tm trivial rfl (t_sadd rfl rfl (by omega)) rfl ?_
  have lb := hvb10.lt
  refine rg_wdC trivial rfl (w_call Tryz.call69 rfl (writeString_k hB (by rw [strCells_length,ByteArray.size_append]; omega) hx.le)) rfl (by rfl) ?_
  rintro _ w80 ⟨rfl,hB2,hb1,hkv⟩
  have hv := hkv _ _ _ (by omega) (by decide) hvb10
  replace hx : Ext w w80 := Below.trans hx hb1
  replace hB : IsBuilder 121 5 w.heap.size b7 _ w80 := .inr hB2
  replace lt7 := hB2.lt
  clear hcb10 hvb10 hkv hB2 hb1
  have hcb10 := hv.cells
  refine Rg.done ?_
  refine Wp.region ?_
  refine Rg.tm trivial rfl (t_fieldAddr fa123_1 rfl) rfl ?_
  refine Rg.tm trivial rfl (t_load ty3 rfl (by apply Cells.get (i := 1); (case h => assumption); rfl)) rfl ?_
  refine Rg.tm trivial rfl (t_assign rfl) rfl ?_
  refine Rg.done ?_
  refine Wp.region ?_
  first | refine Rg.tm trivial rfl (t_addI rfl rfl (by omega)) rfl ?_ | refine Rg.tm trivial rfl (t_add rfl rfl) rfl ?_
  refine Rg.tm trivial rfl (t_move rfl) rfl ?_
  refine Rg.done ?_
  rw [← strCells_add] at hB
  refine ⟨k + 1,?_,⟨hlt,?_,lt7,hx⟩,by omega⟩
  ·rw [p6,lastE_snoc]
   repeat (first | exact .nil | refine .cons rfl ?_)
  ·rw [p6,appE_snoc]
   exact hB
 ·have e0 : k = es.length := by omega
  subst e0
  simp only [List.take_length] at *
  have p1 := last0 (by omega) z3 es.length
  rw [List.take_length] at p1
  have p2 := (appE_le h0 es.length).2
  have p3 : (outE s es).size = (appE s 0 es).size + (s.extract (lastE 0 es).toNat s.size).size := by simp only [outE,ByteArray.size_append]
  refine Wp.seq (Wp.region ?_)
  first | refine Rg.tm trivial rfl (t_lssT rfl rfl (by omega)) rfl ?_ | refine Rg.tm trivial rfl (t_lssF rfl rfl (by omega)) rfl ?_ | refine Rg.tm trivial rfl (t_lss rfl rfl) rfl ?_
  refine Rg.done ?_
  refine Wp.seq ?_
  refine Wp.condF rfl ?_
  refine Wp.exit ?_
  refine Wp.seq (Wp.region ?_)
  refine Rg.tm trivial rfl (t_move rfl) rfl ?_
  refine Rg.tm trivial rfl (t_move rfl) rfl ?_
  refine Rg.tm trivial rfl (t_sliceS Tryz.underlying9 rfl rfl rfl (by omega)) rfl ?_
  refine Rg.wd trivial (w_call Tryz.call69 rfl (writeString_k hB (by rw [strCells_length]; simp only [Int.toNat_natCast]; omega) hx.le)) rfl ?_
  rintro _ w80 ⟨rfl,hB2,hb1,hkv⟩
  replace hx : Ext w w80 := Below.trans hx hb1
  replace hB : IsBuilder 121 5 w.heap.size b7 _ w80 := .inr hB2
  rw [← strCells_add,strCells_eq] at hB
  change IsBuilder 121 5 w.heap.size b7 (byteCells (outE s es).data.toList) w80 at hB
  refine Rg.done ?_
  refine Wp.seq (Wp.region ?_)
  refine Rg.wd trivial (w_call Tryz.call70 rfl (Cl.of (Tryz.Builder_String_any w.heap.size b7 _ w80 hB hx.le))) rfl ?_
  rintro _ w81 ⟨rfl,hb4⟩
  refine Rg.tm trivial rfl (t_assign rfl) rfl ?_
  refine Rg.tm trivial rfl (t_assign rfl) rfl ?_
  refine Rg.done ?_
  refine Wp.ret ?_
  exact ⟨[_,_],⟨rfl,rfl,trivial⟩,by simp [tup],Below.trans hx hb4⟩
end Go.Proofs.YtliofpegbcegiaaGreatDoor
namespace Go.Proofs.YtliofpegbcegiaaGreatDoor
abbrev BA := ByteArray
abbrev Key := Int × Int × Int
abbrev QV := List Int × ByteArray
abbrev MD := ByteArray × ByteArray
def noB : ByteArray := ⟨#[]⟩
section
variable {α : Type}
def lkp : List (Key × α) → Key → Option α
 | [],_ => none
 | p :: l,k => if p.1 = k then some p.2 else lkp l k
def ups : List (Key × α) → Key → α → List (Key × α)
 | [],k,v => [(k,v)]
 | p :: l,k,v => if p.1 = k then (k,v) :: l else p :: ups l k v
theorem lkp_ups : ∀ (l : List (Key × α)) (k : Key) (v : α) (k' : Key),lkp (ups l k v) k' = if k = k' then some v else lkp l k'
 | [],k,v,k' => by simp [ups,lkp]
 | p :: l,k,v,k' => by
  unfold ups
  by_cases h : p.1 = k
  ·rw [if_pos h]
   simp only [lkp,h]
   by_cases hk : k = k'
   ·simp [hk]
   ·simp [hk]
  ·rw [if_neg h]
   simp only [lkp,lkp_ups l k v k']
   by_cases h1 : p.1 = k'
   ·have : k ≠ k' := fun e => h (h1.trans e.symm)
    simp [h1,this]
   ·simp [h1]
theorem lkp_mem : ∀ {l : List (Key × α)} {k : Key} {v : α},lkp l k = some v → (k,v) ∈ l
 | p :: l,k,v,h => by
  unfold lkp at h
  split at h
  ·rename_i e
   injection h with h
   subst h
   subst e
   simp
  ·exact List.mem_cons_of_mem _ (lkp_mem h)
theorem ups_mem : ∀ {l : List (Key × α)} {k : Key} {v : α} {p : Key × α},p ∈ ups l k v → p = (k,v) ∨ p ∈ l
 | [],k,v,p,h => by simp [ups] at h; exact .inl h
 | q :: l,k,v,p,h => by
  unfold ups at h
  split at h
  ·rcases List.mem_cons.1 h with h | h
   ·exact .inl h
   ·exact .inr (List.mem_cons_of_mem _ h)
  ·rcases List.mem_cons.1 h with h | h
   ·exact .inr (by rw [h]; simp)
   ·rcases ups_mem h with h | h
    ·exact .inl h
    ·exact .inr (List.mem_cons_of_mem _ h)
theorem ups_len (l : List (Key × α)) (k : Key) (v : α) : (ups l k v).length ≤ l.length + 1 := by
 induction l with
 | nil => simp [ups]
 | cons p l ih =>
  unfold ups
  split
  ·simp
  ·simp; omega
end
structure Ins where
 rev : Int
 cells : List (Key × (QV × Int))
def Ins.get (s : Ins) (k : Key) : QV × Int := (lkp s.cells k).getD (([],noB),0)
def Ins.val (s : Ins) (k : Key) : QV := (s.get k).1
def Ins.set (s : Ins) (k : Key) (v : QV) : Ins := if (s.get k).1 = v then s else ⟨s.rev + 1,ups s.cells k (v,s.rev + 1)⟩
theorem Ins.val_set (s : Ins) (k : Key) (v : QV) (k' : Key) : (s.set k v).val k' = if k = k' then v else s.val k' := by
 unfold Ins.set
 split
 ·rename_i h
  by_cases hk : k = k'
  ·subst hk; simp [Ins.val,h]
  ·simp [hk]
 ·simp only [Ins.val,Ins.get,lkp_ups]
  by_cases hk : k = k' <;> simp [hk]
theorem Ins.get_set (s : Ins) (k : Key) (v : QV) (k' : Key) : (s.set k v).get k' = s.get k' ∨ (k = k' ∧ (s.set k v).get k' = (v,s.rev + 1)) := by
 unfold Ins.set
 split
 ·exact .inl rfl
 ·simp only [Ins.get,lkp_ups]
  by_cases hk : k = k'
  ·right; simp [hk]
  ·left; simp [hk]
theorem Ins.rev_set (s : Ins) (k : Key) (v : QV) : s.rev ≤ (s.set k v).rev ∧ (s.set k v).rev ≤ s.rev + 1 := by
 unfold Ins.set
 split <;> simp <;> omega
def Ins.Fine (s : Ins) : Prop := 0 ≤ s.rev ∧ ∀ k,0 ≤ (s.get k).2 ∧ (s.get k).2 ≤ s.rev
theorem Ins.Fine.set {s : Ins} (h : s.Fine) (k : Key) (v : QV) : (s.set k v).Fine := by
 have hr := s.rev_set k v
 refine ⟨by have := h.1; omega,fun k' => ?_⟩
 have hk := h.2 k'
 have h0 := h.1
 rcases s.get_set k v k' with e | ⟨_,e⟩
 ·rw [e]; omega
 ·rw [e]
  show 0 ≤ s.rev + 1 ∧ s.rev + 1 ≤ (s.set k v).rev
  have : (s.set k v).rev = s.rev + 1 := by
   unfold Ins.set
   split
   ·rename_i hv
    exfalso
    have e' : (s.set k v) = s := by unfold Ins.set; rw [if_pos hv]
    rw [e'] at e
    have := congrArg Prod.snd e
    simp at this
    omega
   ·rfl
  omega
def Ins.mods (s : Ins) : Nat → List MD → Ins
 | _,[] => s
 | i,m :: l => ((s.set (0,1,i) ([],m.1)).set (0,2,i) ([],m.2)).mods (i + 1) l
def Ins.all (s : Ins) (ms : List MD) : Ins := (s.set (0,0,0) ([(ms.length : Int)],noB)).mods 0 ms
section
variable {α : Type}
def idxF (q : α → Bool) : Nat → List α → Int
 | _,[] => -1
 | k,m :: l => if q m then k else idxF q (k + 1) l
end
def idxM (ms : List MD) (name : BA) : Int := idxF (fun m : MD => decide (m.1 = name)) 0 ms
section
variable {α : Type}
theorem idxF_bound (q : α → Bool) : ∀ (k : Nat) (l : List α),idxF q k l = -1 ∨ (∃ i : Nat,idxF q k l = (k + i : Nat) ∧ ∃ m,l[i]? = some m ∧ q m = true ∧ ∀ j,j < i → ∀ m',l[j]? = some m' → q m' = false)
 | _,[] => .inl rfl
 | k,m :: l => by
  unfold idxF
  by_cases h : q m = true
  ·rw [if_pos h]
   exact .inr ⟨0,by simp,m,rfl,h,fun j hj => by omega⟩
  ·rw [if_neg h]
   rcases idxF_bound q (k + 1) l with e | ⟨i,e,m',h1,h2,h3⟩
   ·exact .inl e
   ·refine .inr ⟨i + 1,by rw [e]; congr 1; omega,m',by simpa using h1,h2,fun j hj m2 hm2 => ?_⟩
    cases j with
    | zero => simp at hm2; subst hm2; simpa using h
    | succ j => exact h3 j (by omega) m2 (by simpa using hm2)
theorem idxF_none {q : α → Bool} : ∀ {k : Nat} {l : List α},idxF q k l = -1 → ∀ m ∈ l,q m = false
 | _,[],_ => fun m hm => by cases hm
 | k,m :: l,h => by
  unfold idxF at h
  by_cases hq : q m = true
  ·rw [if_pos hq] at h; omega
  ·rw [if_neg hq] at h
   intro m' hm'
   rcases List.mem_cons.1 hm' with e | e
   ·subst e; simpa using hq
   ·exact idxF_none h m' e
theorem idxF_lt {q : α → Bool} {k : Nat} {l : List α} (h : ¬ idxF q k l < 0) : ∃ i,idxF q k l = (k + i : Nat) ∧ i < l.length := by
 rcases idxF_bound q k l with e | ⟨i,e,m,h1,_⟩
 ·omega
 ·exact ⟨i,e,(List.getElem?_eq_some_iff.1 h1).1⟩
end
def nameM : ByteArray := ⟨#[109]⟩
def mdAt (ms : List MD) (i : Nat) : MD := (ms[i]?).getD (noB,noB)
def sketch (ms : List MD) (query arg : Int) (name : BA) : Int × List Int × BA :=
 if idxM ms name < 0 ∨ arg < 0 then (1,[],noB)
 else if query = 2 ∨ query = 3 then (0,[query,((mdAt ms (idxM ms name).toNat).2.size : Int)],(mdAt ms (idxM ms name).toNat).2.extract 0 (min ((mdAt ms (idxM ms name).toNat).2.size) arg.toNat))
 else (0,ms.flatMap (fun m => [(m.2.size : Int),arg]),name)
def fcount (f : Key → QV) : Nat := ((f (0,0,0)).1.headD 0).toNat
def fmods (f : Key → QV) : List MD := (List.range (fcount f)).map fun (i : Nat) => ((f (0,1,(i : Int))).2,(f (0,2,(i : Int))).2)
def mdeps (n : Nat) : List Key := (0,0,0) :: (List.range n).flatMap fun (i : Nat) => [(0,1,(i : Int)),(0,2,(i : Int))]
def isLoc (q : Int) : Prop := q = 2 ∨ q = 3
instance (q : Int) : Decidable (isLoc q) := inferInstanceAs (Decidable (_ ∨ _))
def comp (f : Key → QV) (k : Key) : QV × List Key :=
 if isLoc k.1 then
  (((sketch [(nameM,(f (0,2,k.2.2)).2)] k.1 k.2.1 nameM).1 :: (sketch [(nameM,(f (0,2,k.2.2)).2)] k.1 k.2.1 nameM).2.1,(sketch [(nameM,(f (0,2,k.2.2)).2)] k.1 k.2.1 nameM).2.2),[(0,2,k.2.2)])
 else
  (((sketch (fmods f) k.1 k.2.1 (mdAt (fmods f) k.2.2.toNat).1).1 :: (sketch (fmods f) k.1 k.2.1 (mdAt (fmods f) k.2.2.toNat).1).2.1,(sketch (fmods f) k.1 k.2.1 (mdAt (fmods f) k.2.2.toNat).1).2.2),mdeps (fcount f))
theorem fmods_congr {f g : Key → QV} (h0 : g (0,0,0) = f (0,0,0)) (h : ∀ i : Nat,i < fcount f → g (0,1,(i : Int)) = f (0,1,(i : Int)) ∧ g (0,2,(i : Int)) = f (0,2,(i : Int))) : fcount g = fcount f ∧ fmods g = fmods f := by
 have hc : fcount g = fcount f := by unfold fcount; rw [h0]
 refine ⟨hc,?_⟩
 unfold fmods
 rw [hc]
 refine List.map_congr_left fun i hi => ?_
 obtain ⟨h1,h2⟩ := h i (List.mem_range.1 hi)
 rw [h1,h2]
theorem comp_local {f g : Key → QV} {k : Key} (h : ∀ d ∈ (comp f k).2,g d = f d) : comp g k = comp f k := by
 unfold comp at h ⊢
 by_cases hl : isLoc k.1
 ·rw [if_pos hl] at h ⊢
  rw [if_pos hl]
  rw [h (0,2,k.2.2) (by simp)]
 ·rw [if_neg hl] at h ⊢
  rw [if_neg hl]
  have h0 : g (0,0,0) = f (0,0,0) := h _ (by simp [mdeps])
  have hi : ∀ i : Nat,i < fcount f → g (0,1,(i : Int)) = f (0,1,(i : Int)) ∧ g (0,2,(i : Int)) = f (0,2,(i : Int)) := fun i hi =>
   ⟨h _ (by simp only [mdeps,List.mem_cons,List.mem_flatMap,List.mem_range]; exact .inr ⟨i,hi,by simp⟩),h _ (by simp only [mdeps,List.mem_cons,List.mem_flatMap,List.mem_range]; exact .inr ⟨i,hi,by simp⟩)⟩
  obtain ⟨h1,h2⟩ := fmods_congr h0 hi
  rw [h1,h2]
structure Res where
 val : QV
 ver : Int
 deps : List Key
 last : Int
structure DB where
 ins : Ins
 res : List (Key × Res)
 comps : Int
 clock : Int
def okI (s : Ins) (r : Res) : Bool := decide (r.ver = s.rev) || decide (s.rev ≤ r.ver) || r.deps.all (fun d => decide ((s.get d).2 ≤ r.ver))
def DB.ok (db : DB) (r : Res) : Bool := okI db.ins r
def DB.hit (db : DB) (k : Key) : Option Res := match lkp db.res k with
 | some r => if db.ok r then some r else none
 | none => none
def DB.old (db : DB) (k : Key) (r : Res) : DB := { db with res := ups db.res k { r with ver := db.ins.rev,last := db.clock + 1 },clock := db.clock + 1 }
def DB.new (db : DB) (k : Key) : DB := { db with res := ups db.res k ⟨(comp db.ins.val k).1,db.ins.rev,(comp db.ins.val k).2,db.clock + 1⟩,comps := db.comps + 1,clock := db.clock + 1 }
def DB.get (db : DB) (k : Key) (stop : Bool) : Option (QV × DB) := match db.hit k with
 | some r => some (r.val,db.old k r)
 | none => if stop then none else some ((comp db.ins.val k).1,db.new k)
structure Rq where
 client : Int
 id : Int
 query : Int
 arg : Int
 name : BA
structure Rs where
 client : Int
 id : Int
 err : Int
 rev : Int
 nums : List Int
 text : BA
structure St where
 mods : List MD
 vers : List Int
 pend : List Rq
 rev : Int
 db : DB
def respond (ms : List MD) (rev : Int) (db : DB) (r : Rq) (stop : Bool) : Option (Rs × DB) :=
 if idxM ms r.name < 0 then some (⟨r.client,r.id,5,rev,[],noB⟩,db)
 else match db.get (r.query,r.arg,idxM ms r.name) stop with
  | none => none
  | some (v,db') => some (⟨r.client,r.id,v.1.headD 0,rev,v.1.tail,v.2⟩,db')
def runP (ms : List MD) (rev n start : Int) : List Rq → DB → List Rs × List Rq × DB
 | [],db => ([],[],db)
 | r :: l,db => match respond ms rev db r (decide (n ≤ db.comps - start)) with
  | none => ([],r :: l,db)
  | some (rs,db') => (rs :: (runP ms rev n start l db').1,(runP ms rev n start l db').2)
def findR (pend : List Rq) (client id : Int) : Option Nat := pend.findIdx? fun r => decide (r.client = client) && decide (r.id = id)
def rank (l : List (Key × Res)) (p : Key × Res) : Nat := l.countP fun q => decide (q.2.last < p.2.last)
def trim (l : List (Key × Res)) (n : Int) : List (Key × Res) := l.filter fun p => decide (l.length - (max n 0).toNat ≤ rank l p)
section
variable {E : Type}
structure Ev (E : Type) where
 kind : Int
 n : Int
 version : Int
 name : BA
 text : BA
 edits : List E
 req : Rq
structure Ctx (E : Type) where
 valid : List MD → Int
 app : BA → List E → Int × BA
 lt : BA → BA → Bool
variable (C : Ctx E)
def insAt (ms : List MD) (name : BA) : Nat := ms.countP fun m => C.lt m.1 name
def insert1 {α : Type} (l : List α) (i : Nat) (x : α) : List α := l.take i ++ x :: l.drop i
def replaceS (st : St) (ms : List MD) (vs : List Int) : St × Int :=
 if C.valid ms ≠ 0 then (st,C.valid ms) else ({ st with mods := ms,vers := vs,rev := st.rev + 1,db := { st.db with ins := st.db.ins.all ms } },0)
def writeS (st : St) (name text : BA) : St × Int :=
 if 0 ≤ idxM st.mods name then replaceS C st (st.mods.set (idxM st.mods name).toNat ((mdAt st.mods (idxM st.mods name).toNat).1,text)) (st.vers.set (idxM st.mods name).toNat (st.vers.getD (idxM st.mods name).toNat 0 + 1))
 else replaceS C st (insert1 st.mods (insAt C st.mods name) (name,text)) (insert1 st.vers (insAt C st.mods name) 1)
def removeS (st : St) (name : BA) : St × Int :=
 if idxM st.mods name < 0 then (st,5) else replaceS C st (st.mods.eraseIdx (idxM st.mods name).toNat) (st.vers.eraseIdx (idxM st.mods name).toNat)
def editS (st : St) (name : BA) (version : Int) (es : List E) : St × Int :=
 if idxM st.mods name < 0 then (st,5) else if st.vers.getD (idxM st.mods name).toNat 0 ≠ version then (st,11)
 else if (C.app (mdAt st.mods (idxM st.mods name).toNat).2 es).1 ≠ 0 then (st,(C.app (mdAt st.mods (idxM st.mods name).toNat).2 es).1)
 else writeS C st name (C.app (mdAt st.mods (idxM st.mods name).toNat).2 es).2
def requestS (st : St) (r : Rq) : St × Int :=
 if (findR st.pend r.client r.id).isSome then (st,6) else if 20 ≤ st.pend.length then (st,2) else if r.query < 1 ∨ 8 < r.query then (st,7)
 else ({ st with pend := st.pend ++ [r] },0)
def cancelS (st : St) (client id : Int) : St × List Rs × Int := match findR st.pend client id with
 | none => (st,[],5)
 | some i => ({ st with pend := st.pend.eraseIdx i },[⟨client,id,12,st.rev,[],noB⟩],0)
def runS (st : St) (n : Int) : St × List Rs × Int :=
 if n < 0 then (st,[],1)
 else ({ st with pend := (runP st.mods st.rev n st.db.comps st.pend st.db).2.1,db := (runP st.mods st.rev n st.db.comps st.pend st.db).2.2 },(runP st.mods st.rev n st.db.comps st.pend st.db).1,0)
def evictS (st : St) (n : Int) : St × List Rs × Int := if n < 0 then (st,[],1) else ({ st with db := { st.db with res := trim st.db.res n } },[],0)
def handleS (st : St) (e : Ev E) : St × List Rs × Int :=
 if e.kind = 1 then ((writeS C st e.name e.text).1,[],(writeS C st e.name e.text).2)
 else if e.kind = 2 then ((removeS C st e.name).1,[],(removeS C st e.name).2)
 else if e.kind = 3 then ((editS C st e.name e.version e.edits).1,[],(editS C st e.name e.version e.edits).2)
 else if e.kind = 4 then ((requestS st e.req).1,[],(requestS st e.req).2)
 else if e.kind = 5 then cancelS st e.req.client e.req.id
 else if e.kind = 6 then runS st e.n
 else if e.kind = 7 then evictS st e.n
 else (st,[],7)
def playS : St → List (Ev E) → St × List Rs
 | st,[] => (st,[])
 | st,e :: l => ((playS (handleS C st e).1 l).1,(handleS C st e).2.1 ++ (playS (handleS C st e).1 l).2)
def new0 : St := ⟨[],[],[],0,⟨⟨0,[]⟩,[],0,0⟩⟩
end
end Go.Proofs.YtliofpegbcegiaaGreatDoor
namespace Go.Proofs.YtliofpegbcegiaaGreatDoor
def Sound (s : Ins) (k : Key) (r : Res) : Prop := r.ver ≤ s.rev ∧ ((∀ d ∈ r.deps,(s.get d).2 ≤ r.ver) → comp s.val k = (r.val,r.deps))
def AllSound (s : Ins) (l : List (Key × Res)) : Prop := ∀ p ∈ l,Sound s p.1 p.2
theorem Sound.set {s : Ins} {k0 : Key} {r : Res} (hf : s.Fine) (h : Sound s k0 r) (k : Key) (v : QV) : Sound (s.set k v) k0 r := by
 have hr := s.rev_set k v
 refine ⟨by have := h.1; omega,fun hd => ?_⟩
 by_cases hk : k ∈ r.deps
 ·rcases s.get_set k v k with e | ⟨_,e⟩
  ·have hv : (s.set k v) = s := by
    unfold Ins.set at e ⊢
    split
    ·rfl
    ·rename_i hne
     rw [if_neg hne] at e
     exfalso
     apply hne
     rw [← e]
     simp [Ins.get,lkp_ups]
   rw [hv] at hd ⊢
   exact h.2 hd
  ·have h5 : s.rev + 1 ≤ r.ver := by have := hd k hk; rw [e] at this; exact this
   have h6 := h.1
   omega
 ·have hg : ∀ d ∈ r.deps,(s.set k v).get d = s.get d := fun d hd' => by
   rcases s.get_set k v d with e | ⟨e,_⟩
   ·exact e
   ·subst e; exact absurd hd' hk
  have hc := h.2 fun d hd' => by have := hd d hd'; rwa [hg d hd'] at this
  have := comp_local (f := s.val) (g := (s.set k v).val) (k := k0) fun d hd' => by
   rw [hc] at hd'
   unfold Ins.val
   rw [hg d hd']
  rw [this,hc]
theorem AllSound.set {s : Ins} {l : List (Key × Res)} (hf : s.Fine) (h : AllSound s l) (k : Key) (v : QV) : AllSound (s.set k v) l := fun p hp => (h p hp).set hf k v
theorem mods_keep {l : List (Key × Res)} : ∀ (ms : List MD) (s : Ins) (i : Nat),s.Fine → AllSound s l → (s.mods i ms).Fine ∧ AllSound (s.mods i ms) l ∧ s.rev ≤ (s.mods i ms).rev ∧ (s.mods i ms).rev ≤ s.rev + 2 * ms.length
 | [],s,i,hf,ha => ⟨hf,ha,by simp [Ins.mods],by simp [Ins.mods]⟩
 | m :: ms,s,i,hf,ha => by
  have h1 := hf.set (0,1,i) ([],m.1)
  have h2 := h1.set (0,2,i) ([],m.2)
  have a1 := ha.set hf (0,1,i) ([],m.1)
  have a2 := a1.set h1 (0,2,i) ([],m.2)
  obtain ⟨h3,h4,h5,h6⟩ := mods_keep ms _ (i + 1) h2 a2
  have r1 := s.rev_set (0,1,i) ([],m.1)
  have r2 := (s.set (0,1,i) ([],m.1)).rev_set (0,2,i) ([],m.2)
  refine ⟨h3,h4,by simp only [Ins.mods]; omega,by simp only [Ins.mods,List.length_cons]; omega⟩
theorem all_keep {l : List (Key × Res)} (ms : List MD) (s : Ins) (hf : s.Fine) (ha : AllSound s l) : (s.all ms).Fine ∧ AllSound (s.all ms) l ∧ s.rev ≤ (s.all ms).rev ∧ (s.all ms).rev ≤ s.rev + 1 + 2 * ms.length := by
 have h1 := hf.set (0,0,0) ([(ms.length : Int)],noB)
 have a1 := ha.set hf (0,0,0) ([(ms.length : Int)],noB)
 have r1 := s.rev_set (0,0,0) ([(ms.length : Int)],noB)
 obtain ⟨h3,h4,h5,h6⟩ := mods_keep ms _ 0 h1 a1
 exact ⟨h3,h4,by unfold Ins.all; omega,by unfold Ins.all; omega⟩
def Match (s : Ins) (ms : List MD) : Prop := (ms ≠ [] → s.val (0,0,0) = ([(ms.length : Int)],noB)) ∧ ∀ (i : Nat) (m : MD),ms[i]? = some m → s.val (0,1,(i : Int)) = ([],m.1) ∧ s.val (0,2,(i : Int)) = ([],m.2)
theorem mods_val : ∀ (ms : List MD) (s : Ins) (i : Nat),(∀ k,(∀ j : Nat,i ≤ j → j < i + ms.length → k ≠ (0,1,(j : Int)) ∧ k ≠ (0,2,(j : Int))) → (s.mods i ms).val k = s.val k) ∧
  ∀ (j : Nat) (m : MD),ms[j]? = some m → (s.mods i ms).val (0,1,((i + j : Nat) : Int)) = ([],m.1) ∧ (s.mods i ms).val (0,2,((i + j : Nat) : Int)) = ([],m.2)
 | [],s,i => ⟨fun k _ => rfl,fun j m h => by simp at h⟩
 | m :: ms,s,i => by
  obtain ⟨h1,h2⟩ := mods_val ms ((s.set (0,1,i) ([],m.1)).set (0,2,i) ([],m.2)) (i + 1)
  constructor
  ·intro k hk
   simp only [Ins.mods]
   rw [h1 k fun j h3 h4 => hk j (by omega) (by simp only [List.length_cons]; omega)]
   have := hk i (Nat.le_refl _) (by simp)
   rw [Ins.val_set,if_neg (Ne.symm this.2),Ins.val_set,if_neg (Ne.symm this.1)]
  ·intro j m' hj
   simp only [Ins.mods]
   cases j with
   | zero =>
    simp at hj
    subst hj
    have hne : ∀ (x : Int),x = 1 ∨ x = 2 → ∀ q : Nat,i + 1 ≤ q → q < i + 1 + ms.length → ((0 : Int),x,((i + 0 : Nat) : Int)) ≠ (0,1,(q : Int)) ∧ ((0 : Int),x,((i + 0 : Nat) : Int)) ≠ (0,2,(q : Int)) := fun x hx q hq hq' => by
     constructor <;> (intro e; simp at e; omega)
    rw [h1 _ (hne 1 (.inl rfl)),h1 _ (hne 2 (.inr rfl))]
    simp [Ins.val_set]
   | succ j =>
    have := h2 j m' (by simpa using hj)
    rw [show i + (j + 1) = i + 1 + j from by omega]
    exact this
theorem all_match (ms : List MD) (s : Ins) : Match (s.all ms) ms := by
 obtain ⟨h1,h2⟩ := mods_val ms (s.set (0,0,0) ([(ms.length : Int)],noB)) 0
 refine ⟨fun _ => ?_,fun i m hi => ?_⟩
 ·unfold Ins.all
  rw [h1 (0,0,0) fun j _ _ => by constructor <;> (intro e; simp at e)]
  simp [Ins.val_set]
 ·have := h2 i m hi
  rw [Nat.zero_add] at this
  exact this
theorem ok_comp {db : DB} {k : Key} {r : Res} (hf : db.ins.Fine) (h : Sound db.ins k r) (ho : db.ok r = true) : comp db.ins.val k = (r.val,r.deps) := by
 refine h.2 fun d hd => ?_
 unfold DB.ok okI at ho
 simp only [Bool.or_eq_true,decide_eq_true_eq,List.all_eq_true] at ho
 have := (hf.2 d).2
 rcases ho with (ho | ho) | ho
 ·omega
 ·omega
 ·exact ho d hd
theorem ups_sound {s : Ins} {l : List (Key × Res)} {k : Key} {r : Res} (h : AllSound s l) (hr : Sound s k r) : AllSound s (ups l k r) := fun p hp => by
 rcases ups_mem hp with e | e
 ·subst e; exact hr
 ·exact h p e
theorem dbget_ok {db db' : DB} {k : Key} {stop : Bool} {v : QV} (hf : db.ins.Fine) (ha : AllSound db.ins db.res) (h : db.get k stop = some (v,db')) :
  v = (comp db.ins.val k).1 ∧ db'.ins = db.ins ∧ AllSound db.ins db'.res ∧ db.comps ≤ db'.comps ∧ db'.comps ≤ db.comps + 1 ∧ db'.clock = db.clock + 1 := by
 unfold DB.get at h
 cases hh : db.hit k with
 | some r =>
  rw [hh] at h
  simp only [Option.some.injEq,Prod.mk.injEq] at h
  obtain ⟨rfl,rfl⟩ := h
  unfold DB.hit at hh
  cases hl : lkp db.res k with
  | none => rw [hl] at hh; cases hh
  | some r' =>
   rw [hl] at hh
   simp only at hh
   split at hh
   ·rename_i ho
    injection hh with hh
    subst hh
    have hc := ok_comp hf (ha _ (lkp_mem hl)) ho
    refine ⟨by rw [hc],rfl,ups_sound ha ⟨Int.le_refl _,fun _ => hc⟩,?_,?_,rfl⟩ <;> (simp only [DB.old]; omega)
   ·cases hh
 | none =>
  rw [hh] at h
  simp only at h
  split at h
  ·cases h
  ·simp only [Option.some.injEq,Prod.mk.injEq] at h
   obtain ⟨rfl,rfl⟩ := h
   refine ⟨rfl,rfl,ups_sound ha ⟨Int.le_refl _,fun _ => rfl⟩,?_,?_,rfl⟩ <;> (simp only [DB.new]; omega)
theorem get_go {db : DB} {k : Key} : ∃ v db',db.get k false = some (v,db') := by
 unfold DB.get
 cases db.hit k with
 | some r => exact ⟨_,_,rfl⟩
 | none => exact ⟨_,_,rfl⟩
def answer (ms : List MD) (rev : Int) (r : Rq) : Rs :=
 if idxM ms r.name < 0 then ⟨r.client,r.id,5,rev,[],noB⟩
 else if isLoc r.query then ⟨r.client,r.id,(sketch [(nameM,(mdAt ms (idxM ms r.name).toNat).2)] r.query r.arg nameM).1,rev,(sketch [(nameM,(mdAt ms (idxM ms r.name).toNat).2)] r.query r.arg nameM).2.1,(sketch [(nameM,(mdAt ms (idxM ms r.name).toNat).2)] r.query r.arg nameM).2.2⟩
 else ⟨r.client,r.id,(sketch ms r.query r.arg (mdAt ms (idxM ms r.name).toNat).1).1,rev,(sketch ms r.query r.arg (mdAt ms (idxM ms r.name).toNat).1).2.1,(sketch ms r.query r.arg (mdAt ms (idxM ms r.name).toNat).1).2.2⟩
theorem fmods_match {s : Ins} {ms : List MD} (h : Match s ms) (hne : ms ≠ []) : fmods s.val = ms := by
 have h0 := h.1 hne
 unfold fmods fcount
 rw [h0]
 simp only [List.headD_cons,Int.toNat_natCast]
 refine List.ext_getElem (by simp) fun i h1 h2 => ?_
 have := h.2 i ms[i] (List.getElem?_eq_getElem h2)
 simp [this.1,this.2]
theorem respond_ok {ms : List MD} {rev : Int} {db db' : DB} {r : Rq} {stop : Bool} {rs : Rs} (hf : db.ins.Fine) (ha : AllSound db.ins db.res) (hm : Match db.ins ms) (h : respond ms rev db r stop = some (rs,db')) :
  rs = answer ms rev r ∧ db'.ins = db.ins ∧ AllSound db.ins db'.res ∧ db.comps ≤ db'.comps ∧ db'.comps ≤ db.comps + 1 := by
 unfold respond at h
 unfold answer
 split at h
 ·rename_i hi
  simp only [Option.some.injEq,Prod.mk.injEq] at h
  obtain ⟨rfl,rfl⟩ := h
  rw [if_pos hi]
  exact ⟨rfl,rfl,ha,Int.le_refl _,by omega⟩
 ·rename_i hi
  cases hg : db.get (r.query,r.arg,idxM ms r.name) stop with
  | none => rw [hg] at h; cases h
  | some q =>
   obtain ⟨v,db2⟩ := q
   rw [hg] at h
   simp only [Option.some.injEq,Prod.mk.injEq] at h
   obtain ⟨rfl,rfl⟩ := h
   obtain ⟨h1,h2,h3,h4,h5,_⟩ := dbget_ok hf ha hg
   refine ⟨?_,h2,h3,h4,h5⟩
   rw [if_neg hi,h1]
   obtain ⟨i,ei,hlt⟩ := idxF_lt hi
   rw [Nat.zero_add] at ei
   have ei' : idxM ms r.name = (i : Int) := ei
   rw [ei']
   simp only [Int.toNat_natCast]
   have hmd : ms[i]? = some (mdAt ms i) := by unfold mdAt; rw [List.getElem?_eq_getElem hlt]; rfl
   have hv := hm.2 i _ hmd
   unfold comp
   by_cases hl : isLoc r.query
   ·rw [if_pos hl,if_pos hl]
    simp only [hv.2,List.headD_cons,List.tail_cons]
   ·rw [if_neg hl,if_neg hl,fmods_match hm (by intro e; subst e; simp at hlt)]
    simp only [Int.toNat_natCast,List.headD_cons,List.tail_cons]
theorem runP_ok {ms : List MD} {rev n start : Int} : ∀ (l : List Rq) {db : DB},db.ins.Fine → AllSound db.ins db.res → Match db.ins ms →
  ∃ j,j ≤ l.length ∧ (runP ms rev n start l db).1 = (l.take j).map (answer ms rev) ∧ (runP ms rev n start l db).2.1 = l.drop j ∧ (runP ms rev n start l db).2.2.ins = db.ins ∧ AllSound db.ins (runP ms rev n start l db).2.2.res ∧
   (db.comps - start + l.length ≤ n → j = l.length) ∧ (db.comps - start < n → l ≠ [] → 1 ≤ j)
 | [],db,hf,ha,hm => ⟨0,by simp,by simp [runP],by simp [runP],by simp [runP],by simpa [runP] using ha,by simp,by simp⟩
 | r :: l,db,hf,ha,hm => by
  unfold runP
  cases hr : respond ms rev db r (decide (n ≤ db.comps - start)) with
  | none =>
   refine ⟨0,by simp,by simp,by simp,rfl,ha,fun hn => ?_,fun hn _ => ?_⟩
   all_goals
    exfalso
    have hf' : decide (n ≤ db.comps - start) = false := by
     try simp only [List.length_cons] at hn
     simp; omega
    rw [hf'] at hr
    unfold respond at hr
    split at hr
    ·cases hr
    ·obtain ⟨v,db2,e⟩ := get_go (db := db) (k := (r.query,r.arg,idxM ms r.name))
     rw [e] at hr
     cases hr
  | some q =>
   obtain ⟨rs,db2⟩ := q
   obtain ⟨h1,h2,h3,h4,h5⟩ := respond_ok hf ha hm hr
   obtain ⟨j,g0,g1,g2,g3,g4,g5,g6⟩ := runP_ok (ms := ms) (rev := rev) (n := n) (start := start) l (db := db2) (by rw [h2]; exact hf) (by rw [h2]; exact h3) (by rw [h2]; exact hm)
   refine ⟨j + 1,by simp; omega,?_,?_,by simp only [g3,h2],by rw [h2] at g4; exact g4,fun hn => ?_,fun _ _ => by omega⟩
   ·simp only [List.take_succ_cons,List.map_cons,h1,g1]
   ·simp only [List.drop_succ_cons,g2]
   ·simp only [List.length_cons] at hn ⊢
    rw [g5 (by simp only [Int.natCast_add,Int.natCast_one] at hn; omega)]
section
variable {E : Type} (C : Ctx E)
def rkey (r : Rq) : Int × Int := (r.client,r.id)
structure Inv (st : St) : Prop where
 fine : st.db.ins.Fine
 sound : AllSound st.db.ins st.db.res
 mtch : Match st.db.ins st.mods
 pend : st.pend.length ≤ 20
 nodup : (st.pend.map rkey).Nodup
 ok : st.mods = [] ∨ C.valid st.mods = 0
 sorted : st.mods.Pairwise fun a b => C.lt a.1 b.1 = true
 vers : st.vers.length = st.mods.length
structure CtxOk : Prop where
 irr : ∀ a,C.lt a a = false
 trans : ∀ a b c,C.lt a b = true → C.lt b c = true → C.lt a c = true
 tri : ∀ a b,a ≠ b → C.lt a b = false → C.lt b a = true
 take : ∀ ms k,C.valid ms = 0 → C.valid (ms.take k) = 0
theorem inv_new : Inv C new0 where
 fine := ⟨Int.le_refl _,fun k => by simp [new0,Ins.get,lkp]⟩
 sound := fun p hp => by cases hp
 mtch := ⟨fun h => absurd rfl h,fun i m h => by simp [new0] at h⟩
 pend := by simp [new0]
 nodup := by simp [new0]
 ok := .inl rfl
 sorted := by simp [new0]
 vers := rfl
variable {C}
theorem Inv.replace {st : St} (h : Inv C st) {ms : List MD} {vs : List Int} (hs : ms.Pairwise fun a b => C.lt a.1 b.1 = true) (hv : vs.length = ms.length) : Inv C (replaceS C st ms vs).1 := by
 unfold replaceS
 split
 ·exact h
 ·rename_i hok
  obtain ⟨h1,h2,_⟩ := all_keep ms st.db.ins h.fine h.sound
  exact ⟨h1,h2,all_match ms _,h.pend,h.nodup,.inr (by simpa using hok),hs,hv⟩
theorem take_count {p : MD → Bool} : ∀ (l : List MD),(∀ (i j : Nat) (a b : MD),i < j → l[i]? = some a → l[j]? = some b → p b = true → p a = true) → (∀ a ∈ l.take (l.countP p),p a = true) ∧ (∀ a ∈ l.drop (l.countP p),p a = false)
 | [],_ => ⟨fun a h => by simp at h,fun a h => by simp at h⟩
 | m :: l,hm => by
  have ih := take_count (p := p) l fun i j a b hij hi hj => hm (i + 1) (j + 1) a b (by omega) (by simpa using hi) (by simpa using hj)
  by_cases hp : p m = true
  ·rw [List.countP_cons_of_pos hp]
   simp only [List.take_succ_cons,List.drop_succ_cons]
   refine ⟨fun a ha => ?_,ih.2⟩
   rcases List.mem_cons.1 ha with e | e
   ·subst e; exact hp
   ·exact ih.1 a e
  ·have hall : ∀ a ∈ l,p a = false := fun a ha => by
    obtain ⟨i,hi⟩ := List.getElem?_of_mem ha
    by_cases hpa : p a = true
    ·exact absurd (hm 0 (i + 1) m a (by omega) rfl (by simpa using hi) hpa) hp
    ·simpa using hpa
   have h0 : l.countP p = 0 := List.countP_eq_zero.2 fun a ha => by rw [hall a ha]; simp
   rw [List.countP_cons_of_neg hp,h0]
   refine ⟨fun a h => by simp at h,fun a ha => ?_⟩
   simp only [List.drop_zero] at ha
   rcases List.mem_cons.1 ha with e | e
   ·subst e; simpa using hp
   ·exact hall a e
theorem ins_split (hC : CtxOk C) {ms : List MD} (hs : ms.Pairwise fun a b => C.lt a.1 b.1 = true) (name : BA) : (∀ a ∈ ms.take (insAt C ms name),C.lt a.1 name = true) ∧ (∀ a ∈ ms.drop (insAt C ms name),C.lt a.1 name = false) :=
 take_count ms fun i j a b hij hi hj hp => by
  obtain ⟨h1,e1⟩ := List.getElem?_eq_some_iff.1 hi
  obtain ⟨h2,e2⟩ := List.getElem?_eq_some_iff.1 hj
  have := List.pairwise_iff_getElem.1 hs i j h1 h2 hij
  rw [e1,e2] at this
  exact hC.trans _ _ _ this hp
theorem insert_sorted (hC : CtxOk C) {ms : List MD} (hs : ms.Pairwise fun a b => C.lt a.1 b.1 = true) {name text : BA} (hn : ∀ m ∈ ms,m.1 ≠ name) : (insert1 ms (insAt C ms name) (name,text)).Pairwise fun a b => C.lt a.1 b.1 = true := by
 obtain ⟨h1,h2⟩ := ins_split hC hs name
 unfold insert1
 rw [List.pairwise_append]
 refine ⟨hs.sublist (List.take_sublist _ _),?_,?_⟩
 ·rw [List.pairwise_cons]
  refine ⟨fun a ha => hC.tri _ _ (hn a (List.mem_of_mem_drop ha)) (h2 a ha),hs.sublist (List.drop_sublist _ _)⟩
 ·intro a ha b hb
  rcases List.mem_cons.1 hb with e | e
  ·subst e; exact h1 a ha
  ·have h3 := hC.tri _ _ (hn b (List.mem_of_mem_drop e)) (h2 b e)
   exact hC.trans _ _ _ (h1 a ha) h3
theorem idxM_none {ms : List MD} {name : BA} (h : idxM ms name < 0) : ∀ m ∈ ms,m.1 ≠ name := fun m hm e => by
 have h1 : idxM ms name = -1 := by
  rcases idxF_bound (fun m : MD => decide (m.1 = name)) 0 ms with e | ⟨i,e,_⟩
  ·exact e
  ·have : idxM ms name = ((0 + i : Nat) : Int) := e
   omega
 have := idxF_none h1 m hm
 simp [e] at this
theorem set_names {ms : List MD} (hs : ms.Pairwise fun a b => C.lt a.1 b.1 = true) (i : Nat) (text : BA) : (ms.set i ((mdAt ms i).1,text)).Pairwise fun a b => C.lt a.1 b.1 = true := by
 rw [List.pairwise_iff_getElem] at hs ⊢
 intro a b ha hb hab
 have ha' : a < ms.length := by simpa using ha
 have hb' : b < ms.length := by simpa using hb
 have key : ∀ (c : Nat) (hc : c < ms.length),((ms.set i ((mdAt ms i).1,text))[c]'(by simpa using hc)).1 = ms[c].1 := fun c hc => by
  rw [List.getElem_set]
  split
  ·rename_i e
   subst e
   simp [mdAt,List.getElem?_eq_getElem hc]
  ·rfl
 rw [key a ha',key b hb']
 exact hs a b ha' hb' hab
theorem insert1_length {α : Type} (l : List α) (i : Nat) (x : α) : (insert1 l i x).length = l.length + 1 := by
 unfold insert1; simp; omega
theorem Inv.write (hC : CtxOk C) {st : St} (h : Inv C st) (name text : BA) : Inv C (writeS C st name text).1 := by
 unfold writeS
 split
 ·exact h.replace (set_names h.sorted _ _) (by simp [h.vers])
 ·rename_i hi
  exact h.replace (insert_sorted hC h.sorted (idxM_none (by omega))) (by rw [insert1_length,insert1_length,h.vers])
theorem Inv.remove {st : St} (h : Inv C st) (name : BA) : Inv C (removeS C st name).1 := by
 unfold removeS
 split
 ·exact h
 ·exact h.replace (h.sorted.sublist (List.eraseIdx_sublist _ _)) (by
   rw [List.length_eraseIdx,List.length_eraseIdx,h.vers])
theorem Inv.edit (hC : CtxOk C) {st : St} (h : Inv C st) (name : BA) (version : Int) (es : List E) : Inv C (editS C st name version es).1 := by
 unfold editS
 repeat' split
 ·exact h
 ·exact h
 ·exact h
 ·exact h.write hC _ _
theorem find_none {pend : List Rq} {c i : Int} (h : findR pend c i = none) : ∀ r ∈ pend,rkey r ≠ (c,i) := fun r hr e => by
 unfold findR at h
 rw [List.findIdx?_eq_none_iff] at h
 have := h r hr
 simp only [rkey,Prod.mk.injEq] at e
 simp [e.1,e.2] at this
theorem Inv.request {st : St} (h : Inv C st) (r : Rq) : Inv C (requestS st r).1 := by
 unfold requestS
 repeat' split
 ·exact h
 ·exact h
 ·exact h
 ·rename_i h1 h2 h3
  refine ⟨h.fine,h.sound,h.mtch,by simp; omega,?_,h.ok,h.sorted,h.vers⟩
  have hn : findR st.pend r.client r.id = none := by simpa using h1
  rw [List.map_append,List.nodup_append]
  refine ⟨h.nodup,by simp,fun a ha b hb => ?_⟩
  obtain ⟨q,hq,rfl⟩ := List.mem_map.1 ha
  simp at hb
  rw [hb]
  exact find_none hn q hq
theorem Inv.cancel {st : St} (h : Inv C st) (c i : Int) : Inv C (cancelS st c i).1 := by
 unfold cancelS
 split
 ·exact h
 ·rename_i k _
  refine ⟨h.fine,h.sound,h.mtch,?_,h.nodup.sublist ((List.eraseIdx_sublist _ _).map _),h.ok,h.sorted,h.vers⟩
  have := h.pend
  show (st.pend.eraseIdx k).length ≤ 20
  rw [List.length_eraseIdx]
  split <;> omega
theorem run_spec {st : St} (h : Inv C st) {n : Int} (hn : 0 ≤ n) : ∃ j,j ≤ st.pend.length ∧ (runS st n).2.1 = (st.pend.take j).map (answer st.mods st.rev) ∧ (runS st n).1.pend = st.pend.drop j ∧ (runS st n).1.mods = st.mods ∧ (runS st n).1.vers = st.vers ∧ (runS st n).1.rev = st.rev ∧
  (runS st n).1.db.ins = st.db.ins ∧ AllSound st.db.ins (runS st n).1.db.res ∧ ((st.pend.length : Int) ≤ n → j = st.pend.length) ∧ (1 ≤ n → st.pend ≠ [] → 1 ≤ j) := by
 obtain ⟨j,h0,h1,h2,h3,h4,h5,h6⟩ := runP_ok (rev := st.rev) (n := n) (start := st.db.comps) st.pend h.fine h.sound h.mtch
 have hlt : ¬ n < 0 := by omega
 refine ⟨j,h0,?_,?_,?_,?_,?_,?_,?_,fun hp => h5 (by omega),fun hp => h6 (by omega)⟩
 all_goals unfold runS; rw [if_neg hlt]
 ·exact h1
 ·exact h2
 ·exact h3
 ·exact h4
theorem Inv.run {st : St} (h : Inv C st) (n : Int) : Inv C (runS st n).1 := by
 by_cases hn : n < 0
 ·unfold runS; rw [if_pos hn]; exact h
 ·obtain ⟨j,h0,h1,h2,h3,h4,h5,h6,h7,_⟩ := run_spec h (n := n) (by omega)
  refine ⟨by rw [h6]; exact h.fine,by rw [h6]; exact h7,by rw [h6,h3]; exact h.mtch,?_,?_,by rw [h3]; exact h.ok,by rw [h3]; exact h.sorted,by rw [h3,h4]; exact h.vers⟩
  ·rw [h2]; have := h.pend; simp; omega
  ·rw [h2]; exact h.nodup.sublist ((List.drop_sublist _ _).map _)
theorem Inv.evict {st : St} (h : Inv C st) (n : Int) : Inv C (evictS st n).1 := by
 unfold evictS
 split
 ·exact h
 ·exact ⟨h.fine,fun p hp => h.sound p ((List.mem_filter.1 hp).1),h.mtch,h.pend,h.nodup,h.ok,h.sorted,h.vers⟩
theorem Inv.handle (hC : CtxOk C) {st : St} (h : Inv C st) (e : Ev E) : Inv C (handleS C st e).1 := by
 unfold handleS
 repeat' split
 ·exact h.write hC _ _
 ·exact h.remove _
 ·exact h.edit hC _ _ _
 ·exact h.request _
 ·exact h.cancel _ _
 ·exact h.run _
 ·exact h.evict _
 ·exact h
theorem Inv.play (hC : CtxOk C) : ∀ {l : List (Ev E)} {st : St},Inv C st → Inv C (playS C st l).1
 | [],st,h => h
 | e :: l,st,h => by
  show Inv C (playS C (handleS C st e).1 l).1
  exact Inv.play hC (h.handle hC e)
theorem errors_law (st : St) (e : Ev E) (h : (handleS C st e).2.2 ≠ 0) : (handleS C st e).2.1 = [] ∧ (handleS C st e).1.mods = st.mods ∧ (handleS C st e).1.pend = st.pend := by
 have hrep : ∀ ms vs,(replaceS C st ms vs).2 ≠ 0 → (replaceS C st ms vs).1 = st := fun ms vs hr => by
  unfold replaceS at hr ⊢
  split
  ·rfl
  ·rename_i h1; rw [if_neg h1] at hr; exact absurd rfl hr
 have hwr : ∀ n t,(writeS C st n t).2 ≠ 0 → (writeS C st n t).1 = st := fun n t hr => by
  unfold writeS at hr ⊢
  split
  ·rename_i h1; rw [if_pos h1] at hr; exact hrep _ _ hr
  ·rename_i h1; rw [if_neg h1] at hr; exact hrep _ _ hr
 unfold handleS at h ⊢
 by_cases h1 : e.kind = 1
 ·simp only [h1,if_true] at h ⊢
  rw [hwr _ _ h]; exact ⟨trivial,rfl,rfl⟩
 rw [if_neg h1] at h ⊢
 by_cases h2 : e.kind = 2
 ·simp only [h2,if_true] at h ⊢
  have : (removeS C st e.name).1 = st := by
   unfold removeS at h ⊢
   split
   ·rfl
   ·rename_i hh; rw [if_neg hh] at h; exact hrep _ _ h
  rw [this]; exact ⟨trivial,rfl,rfl⟩
 rw [if_neg h2] at h ⊢
 by_cases h3 : e.kind = 3
 ·simp only [h3,if_true] at h ⊢
  have : (editS C st e.name e.version e.edits).1 = st := by
   unfold editS at h ⊢
   split
   ·rfl
   ·rename_i a1
    rw [if_neg a1] at h
    split
    ·rfl
    ·rename_i a2
     rw [if_neg a2] at h
     split
     ·rfl
     ·rename_i a3
      rw [if_neg a3] at h
      exact hwr _ _ h
  rw [this]; exact ⟨trivial,rfl,rfl⟩
 rw [if_neg h3] at h ⊢
 by_cases h4 : e.kind = 4
 ·simp only [h4,if_true] at h ⊢
  have : (requestS st e.req).1 = st := by
   unfold requestS at h ⊢
   split
   ·rfl
   ·rename_i a1
    rw [if_neg a1] at h
    split
    ·rfl
    ·rename_i a2
     rw [if_neg a2] at h
     split
     ·rfl
     ·rename_i a3
      rw [if_neg a3] at h
      exact absurd rfl h
  rw [this]; exact ⟨trivial,rfl,rfl⟩
 rw [if_neg h4] at h ⊢
 by_cases h5 : e.kind = 5
 ·simp only [h5,if_true] at h ⊢
  unfold cancelS at h ⊢
  cases hf : findR st.pend e.req.client e.req.id with
  | none => exact ⟨rfl,rfl,rfl⟩
  | some k => rw [hf] at h; exact absurd rfl h
 rw [if_neg h5] at h ⊢
 by_cases h6 : e.kind = 6
 ·simp only [h6,if_true] at h ⊢
  unfold runS at h ⊢
  split
  ·exact ⟨rfl,rfl,rfl⟩
  ·rename_i a1; rw [if_neg a1] at h; exact absurd rfl h
 rw [if_neg h6] at h ⊢
 by_cases h7 : e.kind = 7
 ·simp only [h7,if_true] at h ⊢
  unfold evictS at h ⊢
  split
  ·exact ⟨rfl,rfl,rfl⟩
  ·rename_i a1; rw [if_neg a1] at h; exact absurd rfl h
 rw [if_neg h7]
 exact ⟨rfl,rfl,rfl⟩
def Alike (a b : St) : Prop := a.mods = b.mods ∧ a.vers = b.vers ∧ a.pend = b.pend ∧ a.rev = b.rev
theorem alike_handle {a b : St} (h : Alike a b) (ha : Inv C a) (hb : Inv C b) (e : Ev E) (h6 : e.kind = 6 → e.n = 20) : Alike (handleS C a e).1 (handleS C b e).1 ∧ (handleS C a e).2.1 = (handleS C b e).2.1 := by
 obtain ⟨m,vs,p,r,db⟩ := a
 obtain ⟨m',vs',p',r',db'⟩ := b
 obtain ⟨h1,h2,h3,h4⟩ := h
 simp only at h1 h2 h3 h4
 subst h1 h2 h3 h4
 have hrep : ∀ ms us,Alike (replaceS C ⟨m,vs,p,r,db⟩ ms us).1 (replaceS C ⟨m,vs,p,r,db'⟩ ms us).1 := fun ms us => by
  unfold replaceS
  split <;> exact ⟨rfl,rfl,rfl,rfl⟩
 have hwr : ∀ n t,Alike (writeS C ⟨m,vs,p,r,db⟩ n t).1 (writeS C ⟨m,vs,p,r,db'⟩ n t).1 := fun n t => by
  unfold writeS
  split
  ·exact hrep _ _
  ·exact hrep _ _
 unfold handleS
 by_cases k1 : e.kind = 1
 ·rw [if_pos k1,if_pos k1]; exact ⟨hwr _ _,rfl⟩
 rw [if_neg k1,if_neg k1]
 by_cases k2 : e.kind = 2
 ·rw [if_pos k2,if_pos k2]
  refine ⟨?_,rfl⟩
  unfold removeS
  split
  ·exact ⟨rfl,rfl,rfl,rfl⟩
  ·exact hrep _ _
 rw [if_neg k2,if_neg k2]
 by_cases k3 : e.kind = 3
 ·rw [if_pos k3,if_pos k3]
  refine ⟨?_,rfl⟩
  unfold editS
  split
  ·exact ⟨rfl,rfl,rfl,rfl⟩
  ·split
   ·exact ⟨rfl,rfl,rfl,rfl⟩
   ·split
    ·exact ⟨rfl,rfl,rfl,rfl⟩
    ·exact hwr _ _
 rw [if_neg k3,if_neg k3]
 by_cases k4 : e.kind = 4
 ·rw [if_pos k4,if_pos k4]
  refine ⟨?_,rfl⟩
  unfold requestS
  split
  ·exact ⟨rfl,rfl,rfl,rfl⟩
  ·split
   ·exact ⟨rfl,rfl,rfl,rfl⟩
   ·split
    ·exact ⟨rfl,rfl,rfl,rfl⟩
    ·exact ⟨rfl,rfl,rfl,rfl⟩
 rw [if_neg k4,if_neg k4]
 by_cases k5 : e.kind = 5
 ·rw [if_pos k5,if_pos k5]
  unfold cancelS
  simp only
  split
  ·exact ⟨⟨rfl,rfl,rfl,rfl⟩,rfl⟩
  ·exact ⟨⟨rfl,rfl,rfl,rfl⟩,rfl⟩
 rw [if_neg k5,if_neg k5]
 by_cases k6 : e.kind = 6
 ·rw [if_pos k6,if_pos k6,h6 k6]
  obtain ⟨j,a0,a1,a2,a3,a4,a5,_,_,a8,_⟩ := run_spec ha (n := 20) (by omega)
  obtain ⟨i,b0,b1,b2,b3,b4,b5,_,_,b8,_⟩ := run_spec hb (n := 20) (by omega)
  have hp := ha.pend
  have ej := a8 (by have : p.length ≤ 20 := hp; show (p.length : Int) ≤ 20; omega)
  have ei := b8 (by have : p.length ≤ 20 := hp; show (p.length : Int) ≤ 20; omega)
  have hij : i = j := by rw [ei,ej]
  subst hij
  exact ⟨⟨by rw [a3,b3],by rw [a4,b4],by rw [a2,b2],by rw [a5,b5]⟩,by rw [a1,b1]⟩
 rw [if_neg k6,if_neg k6]
 by_cases k7 : e.kind = 7
 ·rw [if_pos k7,if_pos k7]
  unfold evictS
  split <;> exact ⟨⟨rfl,rfl,rfl,rfl⟩,rfl⟩
 rw [if_neg k7,if_neg k7]
 exact ⟨⟨rfl,rfl,rfl,rfl⟩,rfl⟩
theorem evict_law (hC : CtxOk C) : ∀ (l : List (Ev E)) {a b : St},Alike a b → Inv C a → Inv C b → (∀ e ∈ l,e.kind = 6 → e.n = 20) → (playS C a l).2 = (playS C b (l.filter fun e => decide (e.kind ≠ 7))).2
 | [],a,b,_,_,_,_ => rfl
 | e :: l,a,b,h,ha,hb,hl => by
  have ih : ∀ {a b : St},Alike a b → Inv C a → Inv C b → (playS C a l).2 = (playS C b (l.filter fun e => decide (e.kind ≠ 7))).2 := fun h ha hb => evict_law hC l h ha hb fun e he => hl e (by simp [he])
  by_cases h7 : e.kind = 7
  ·rw [List.filter_cons_of_neg (by simp [h7])]
   have hh : (handleS C a e).2.1 = [] ∧ Alike (handleS C a e).1 b := by
    have hk : handleS C a e = evictS a e.n := by unfold handleS; simp [h7]
    rw [hk]
    unfold evictS
    obtain ⟨h1,h2,h3,h4⟩ := h
    split <;> exact ⟨rfl,h1,h2,h3,h4⟩
   simp only [playS]
   rw [hh.1,List.nil_append]
   exact ih hh.2 (ha.handle hC e) hb
  ·rw [List.filter_cons_of_pos (by simp [h7])]
   simp only [playS]
   obtain ⟨h1,h2⟩ := alike_handle h ha hb e (hl e (by simp))
   rw [h2,ih h1 (ha.handle hC e) (hb.handle hC e)]
def runs : Nat → St → St × List Rs
 | 0,st => (st,[])
 | k + 1,st => ((runs k (runS st 1).1).1,(runS st 1).2.1 ++ (runs k (runS st 1).1).2)
theorem progress_law : ∀ (k : Nat) {st : St},Inv C st → st.pend.length ≤ k → (runs k st).2 = st.pend.map (answer st.mods st.rev) ∧ (runs k st).1.pend = []
 | 0,st,h,hk => by
  have : st.pend = [] := List.length_eq_zero_iff.1 (by omega)
  simp [runs,this]
 | k + 1,st,h,hk => by
  obtain ⟨j,a0,a1,a2,a3,a4,a5,_,_,_,a9⟩ := run_spec h (n := 1) (by omega)
  have hl : (runS st 1).1.pend.length ≤ k := by
   rw [a2,List.length_drop]
   by_cases hp : st.pend = []
   ·simp [hp]
   ·have := a9 (by omega) hp; omega
  obtain ⟨h1,h2⟩ := progress_law k (h.run 1) hl
  refine ⟨?_,h2⟩
  simp only [runs]
  rw [h1,a1,a2,a3,a5,← List.map_append,List.take_append_drop]
theorem find_at {pend : List Rq} (hn : (pend.map rkey).Nodup) {k : Nat} {r : Rq} (hk : pend[k]? = some r) : findR pend r.client r.id = some k := by
 unfold findR
 obtain ⟨hlt,e⟩ := List.getElem?_eq_some_iff.1 hk
 rw [List.findIdx?_eq_some_iff_getElem]
 refine ⟨hlt,by simp [e],fun j hj => ?_⟩
 have hne := List.pairwise_iff_getElem.1 hn j k (by simp; omega) (by simpa using hlt) hj
 simp only [List.getElem_map,e,rkey,ne_eq,Prod.mk.injEq] at hne
 simp only [Bool.and_eq_true,decide_eq_true_eq]
 exact hne
theorem find_gone {pend : List Rq} (hn : (pend.map rkey).Nodup) {k : Nat} {r : Rq} (hk : pend[k]? = some r) : findR (pend.eraseIdx k) r.client r.id = none := by
 unfold findR
 rw [List.findIdx?_eq_none_iff]
 intro q hq
 obtain ⟨hlt,e⟩ := List.getElem?_eq_some_iff.1 hk
 rw [List.mem_eraseIdx_iff_getElem] at hq
 obtain ⟨i,hi,hik,rfl⟩ := hq
 rw [← Bool.not_eq_true]
 simp only [Bool.and_eq_true,decide_eq_true_eq]
 intro hc
 have h1 := List.pairwise_iff_getElem.1 hn
 have h2 : ∀ a b (ha : a < pend.length) (hb : b < pend.length),a < b → rkey pend[a] ≠ rkey pend[b] := fun a b ha hb hab => by
  have := h1 a b (by simpa using ha) (by simpa using hb) hab
  simpa using this
 rcases Nat.lt_or_gt_of_ne hik with h | h
 ·exact h2 i k hi hlt h (by rw [e]; simp [rkey,hc.1,hc.2])
 ·exact h2 k i hlt hi h (by rw [e]; simp [rkey,hc.1,hc.2])
theorem cancel_law {st : St} (h : Inv C st) {k : Nat} {r : Rq} (hk : st.pend[k]? = some r) :
  cancelS st r.client r.id = ({ st with pend := st.pend.eraseIdx k },[⟨r.client,r.id,12,st.rev,[],noB⟩],0) ∧
  cancelS { st with pend := st.pend.eraseIdx k } r.client r.id = ({ st with pend := st.pend.eraseIdx k },[],5) ∧
  (runS { st with pend := st.pend.eraseIdx k } 20).2.1 = (st.pend.eraseIdx k).map (answer st.mods st.rev) ∧ (runS st 20).2.1 = st.pend.map (answer st.mods st.rev) := by
 have h1 : cancelS st r.client r.id = ({ st with pend := st.pend.eraseIdx k },[⟨r.client,r.id,12,st.rev,[],noB⟩],0) := by
  unfold cancelS; rw [find_at h.nodup hk]
 have h2 : cancelS { st with pend := st.pend.eraseIdx k } r.client r.id = ({ st with pend := st.pend.eraseIdx k },[],5) := by
  unfold cancelS; simp only; rw [find_gone h.nodup hk]
 refine ⟨h1,h2,?_,?_⟩
 ·have hi : Inv C { st with pend := st.pend.eraseIdx k } := by have := h.cancel r.client r.id; rw [h1] at this; exact this
  obtain ⟨j,a0,a1,_,_,_,_,_,_,a8,_⟩ := run_spec hi (n := 20) (by omega)
  have := a8 (by have := hi.pend; omega)
  rw [a1,this]
  simp
 ·obtain ⟨j,a0,a1,_,_,_,_,_,_,a8,_⟩ := run_spec h (n := 20) (by omega)
  have := a8 (by have := h.pend; omega)
  rw [a1,this]
  simp
def cancels : List Rq → St → St
 | [],st => st
 | r :: l,st => cancels l (cancelS st r.client r.id).1
theorem cancels_pend : ∀ (l : List Rq) {st : St},Inv C st → st.pend = l → (cancels l st).pend = [] ∧ (cancels l st).mods = st.mods ∧ Inv C (cancels l st)
 | [],st,h,hl => ⟨hl,rfl,h⟩
 | r :: l,st,h,hl => by
  have h1 : cancelS st r.client r.id = ({ st with pend := st.pend.eraseIdx 0 },[⟨r.client,r.id,12,st.rev,[],noB⟩],0) := by
   unfold cancelS; rw [find_at h.nodup (k := 0) (by rw [hl]; rfl)]
  have h2 := h.cancel r.client r.id
  simp only [cancels]
  rw [h1] at h2 ⊢
  exact cancels_pend l h2 (by simp [hl])
def writes : List MD → St → St
 | [],st => st
 | m :: l,st => writes l (writeS C st m.1 m.2).1
theorem idxM_fresh {ms : List MD} {name : BA} (h : ∀ m ∈ ms,m.1 ≠ name) : idxM ms name < 0 := by
 rcases idxF_bound (fun m : MD => decide (m.1 = name)) 0 ms with e | ⟨i,e,m,h1,h2,_⟩
 ·have : idxM ms name = -1 := e
  omega
 ·exact absurd (by simpa using h2) (h m (List.mem_of_getElem? h1))
theorem writes_ok (hC : CtxOk C) {all : List MD} (hs : all.Pairwise fun a b => C.lt a.1 b.1 = true) (hv : all = [] ∨ C.valid all = 0) : ∀ (l done : List MD) {st : St},Inv C st → all = done ++ l → st.mods = done → st.pend = [] → (writes (C := C) l st).mods = all ∧ (writes (C := C) l st).pend = [] ∧ Inv C (writes (C := C) l st)
 | [],done,st,h,he,hm,hp => ⟨by simp only [writes]; rw [hm,he]; simp,hp,h⟩
 | m :: l,done,st,h,he,hm,hp => by
  simp only [writes]
  have hlt : ∀ a ∈ done,C.lt a.1 m.1 = true := fun a ha => by
   rw [he,List.pairwise_append] at hs
   exact hs.2.2 a ha m (by simp)
  have hne : ∀ a ∈ done,a.1 ≠ m.1 := fun a ha e => by
   have := hlt a ha
   rw [e,hC.irr] at this
   cases this
  have hi : idxM st.mods m.1 < 0 := by rw [hm]; exact idxM_fresh hne
  have hat : insAt C st.mods m.1 = st.mods.length := by
   unfold insAt
   rw [List.countP_eq_length]
   rw [hm]
   exact hlt
  have hins : insert1 st.mods (insAt C st.mods m.1) (m.1,m.2) = done ++ [m] := by
   rw [hat]
   unfold insert1
   rw [hm]; simp
  have hval : C.valid (done ++ [m]) = 0 := by
   rcases hv with e | e
   ·rw [e] at he; simp at he
   ·have := hC.take all (done.length + 1) e
    rw [he] at this
    rwa [show (done ++ m :: l).take (done.length + 1) = done ++ [m] from by
     rw [List.take_append]; simp [List.take_of_length_le]] at this
  have hw : (writeS C st m.1 m.2).1.mods = done ++ [m] ∧ (writeS C st m.1 m.2).1.pend = [] := by
   unfold writeS
   rw [if_neg (by omega),hins]
   unfold replaceS
   rw [if_neg (by simp [hval])]
   exact ⟨rfl,hp⟩
  exact writes_ok hC hs hv l (done ++ [m]) (h.write hC _ _) (by rw [he]; simp) hw.1 hw.2
def asked (st : St) (r : Rq) : List Rs := (runS (requestS st r).1 1).2.1
theorem asked_ok {st : St} (h : Inv C st) (hp : st.pend = []) (r : Rq) : asked st r = if r.query < 1 ∨ 8 < r.query then [] else [answer st.mods st.rev r] := by
 unfold asked
 have hi := h.request r
 have hreq : (requestS st r).1 = if r.query < 1 ∨ 8 < r.query then st else { st with pend := [r] } := by
  unfold requestS
  rw [if_neg (by rw [hp]; simp [findR]),if_neg (by rw [hp]; simp)]
  split <;> simp [hp]
 rw [hreq] at hi ⊢
 by_cases hq : r.query < 1 ∨ 8 < r.query
 ·rw [if_pos hq] at hi ⊢
  rw [if_pos hq]
  obtain ⟨j,a0,a1,_⟩ := run_spec hi (n := 1) (by omega)
  rw [a1]
  simp [hp]
 ·rw [if_neg hq] at hi ⊢
  rw [if_neg hq]
  obtain ⟨j,a0,a1,_,_,_,_,_,_,a8,_⟩ := run_spec hi (n := 1) (by omega)
  have := a8 (by simp)
  rw [a1,this]
  simp
end
end Go.Proofs.YtliofpegbcegiaaGreatDoor
