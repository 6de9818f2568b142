/- What the rows on the lexer lay: the table of white space, and a world that holds it. -/
import Derived.Test.YtcelfjbajdffkaaGreatDoorXd
import Derived.Test.YtcelfjbajdffkaaGreatDoorRows
import Derived.ProofKit
import Derived.SizedLaws
import Derived.LaidMore
import Derived.Lib.LaidTab
import Derived.Lib.LaidU8
import Derived.Lib.LaidIn
import Derived.ChangeMaps5
import Derived.Test.YtcelfjbajdffkaaGreatDoorXo
import Derived.Deep.Strs
set_option linter.unusedVariables false
set_option linter.unusedSimpArgs false
namespace Go.Proofs.YtcelfjbajdffkaaGreatDoor
open Go.ChangeShapes Go.WideShapes Go.ChangeAt Go.RowKit Go.Gx Go.Lib Go.Shelf
theorem own_ : ownKnob Tryz.prog.godebug = none := by kernel_rfl
theorem laidOut_ : laidOutB Tryz.prog = true := by kernel_rfl
def spLaid : List (String × DataW Unit) := [("unicode.White_Space",Rows.laid_unicode_White_Space),("strings.asciiSpace",Rows.laid_strings_asciiSpace)]
noncomputable def spWorld (os : Os) : World := World.doorLaid Tryz.prog 400 os
set_option maxRecDepth 1000000 in
theorem sp_met (os : Os) (args : Array Value) : laidMetH Tryz.prog spLaid ((spWorld os).forCall (fun _ _ => 0) ⟨#[],args,[]⟩).memory :=
 laidMetH_of_parts3 (fuel := 8) (laidMet_of_run' 8 (by kernel_rfl) (by kernel_rfl)) (by kernel_rfl) (by kernel_rfl)
end Go.Proofs.YtcelfjbajdffkaaGreatDoor
namespace Go.Proofs.YtcelfjbajdffkaaGreatDoor
open Lexi (Asc)
open Go.ChangeShapes Go.WideShapes Go.ChangeAt Go.RowKit Go.Gx Go.Lib Go.Shelf
theorem asc_eq : (Rows.laid_strings_asciiSpace : DataW Unit) = tabData .u8 asciiSpaceTab := by kernel_rfl
theorem asc_of {W : World} (h : laidMet Tryz.prog spLaid W) : Asc W := by
 obtain ⟨g,t,cs,fuel,p,hg,hty,hvar,hd⟩ := laidMet.reads h (.tail _ (.head _))
 rw [asc_eq] at hd
 obtain rfl := Option.some.inj ((show Tryz.prog.globalNamed "strings.asciiSpace" = some 0 by kernel_rfl).symm.trans hg)
 obtain rfl := Option.some.inj ((show (Tryz.prog.globals[0]?).map (·.type) = some 141 by kernel_rfl).symm.trans hty)
 unfold Asc TabIs
 rw [hvar,← cells_of_tab Tryz.underlying141 Tryz.underlying5 (by kernel_rfl) (by kernel_rfl) hd]
end Go.Proofs.YtcelfjbajdffkaaGreatDoor
namespace Go.Proofs.YtcelfjbajdffkaaGreatDoor
set_option maxRecDepth 20000
open Lexi (TE tes tes_at tes_length TE.cells)
open Go.ChangeShapes Go.WideShapes Go.ChangeAt Go.RowKit Go.Gx Go.Deep
theorem cells9_ : Tryz.prog.cellsOf 9 = 1 := by kernel_rfl
theorem cells48_ : Tryz.prog.cellsOf 41 = 3 := by kernel_rfl
theorem cells3'_ : Tryz.prog.cellsOf 3 = 1 := by kernel_rfl
instance : Inhabited TE := ⟨⟨0,0,⟨#[]⟩⟩⟩
theorem tes_get {es : List TE} {k j : Nat} (hk : k < es.length) (hj : j < 3) : (tes es)[k * 3 + j]? = es[k].cells[j]? := by
 rw [← tes_at es k hk,List.getElem?_take,if_pos hj,List.getElem?_drop]
def TE_data {H : Type} (e : TE) : DataW H := .agg [.lit (.int .i64 e.a),.lit (.int .i64 e.b),.lit (.string e.s.data.toList)]
theorem TE_weighs {H : Type} {es : List TE} {e : TE} (he : e ∈ es) : e.s.size ∈ DataW.weightsAll Tryz.prog 41 (es.map (TE_data (H := H))) := by
 induction es with
 | nil => cases he
 | cons d es ih =>
  simp only [List.map_cons,DataW.weightsAll,List.mem_append]
  rcases List.mem_cons.1 he with rfl | he
  ·refine .inl ?_
   simp only [TE_data,DataW.weights]
   rw [Tryz.underlying41]
   exact List.mem_cons_self
  ·exact .inr (ih he)
theorem bytes48_ : Tryz.prog.bytesOf 41 = 32 := by kernel_rfl
theorem edits_sized {H : Type} {ts : List TypeId} {ds : List (DataW H)} (h : (DataW.weightsEach Tryz.prog ts ds).all (· ≤ reachBytes) = true) {j : Nat} {es : List TE} {rest : List (DataW H)} (ht : ts[j]? = some 45) (hd : ds[j]? = some (.slice (es.map TE_data) rest)) :
  es.length < 4611686018427387904 ∧ ∀ e ∈ es,(e.s.size : Int) ≤ 140737488355328 := by
 refine ⟨?_,fun e he => ?_⟩
 ·have := sized_slice h ht hd Tryz.underlying45
  rw [bytes48_] at this
  simp only [List.length_map,reachBytes] at this
  omega
 ·have := List.all_eq_true.1 h e.s.size (DataW.weights_mem_each ht hd _ (by
   simp only [DataW.weights,Tryz.underlying45,List.mem_cons,List.mem_append]
   exact .inr (.inl (TE_weighs he))))
  have h2 := of_decide_eq_true this
  unfold reachBytes at h2
  omega
theorem edits_in {W : World} {a0 : Option Addr} {len cap : Nat} {p : List MemPlace} {H : Type} {enc : TypeId × Value → H} {base : Nat} {d : DataW H}
  (h0 : DataW.Trod enc Tryz.prog W base (fun _ => true) true 45 (.slice a0 len cap) d p) : ∃ es : List TE,es.length = len ∧ SlC W (.slice a0 len cap) 3 len (tes es) ∧ (len = 0 ∨ ∃ rest,d = .slice (es.map TE_data) rest) := by
 obtain ⟨fuel,hf⟩ := h0
 rcases open_slice Tryz.underlying45 hf with ⟨hcs,hx⟩ | ⟨a,len',cap',m,n,D,Pl,hcs,hbs,hl,hm,hmm,hx,hcell⟩
 ·simp [Value.cells] at hcs
  obtain ⟨rfl,rfl,rfl⟩ := hcs
  exact ⟨[],rfl,⟨rfl,_,_,rfl,Nat.le_refl _,.inl rfl⟩,.inl rfl⟩
 ·simp [Value.cells] at hcs
  obtain ⟨rfl,rfl,rfl⟩ := hcs
  replace hmm : m = cap := by simpa using hmm
  subst hmm
  rw [cells48_] at hcell
  have hone : ∀ i,i < m → ∃ e : TE,W.cells? base (a.add (i * 3)) 3 = some e.cells ∧ D i = TE_data e := by
   intro i hi
   obtain ⟨cs',h1,h2⟩ := hcell i hi
   obtain ⟨y0,y1,y2,n',hD,hl3,k0,k1,k2⟩ := trod_struct3 Tryz.underlying41 h2
   rw [cells48_] at hl3
   match cs',hl3 with
   | [c0,c1,c2],_ =>
    obtain ⟨z0,q0,r0,_⟩ := DataW.trod_int Tryz.underlying3 k0
    obtain ⟨z1,q1,r1,_⟩ := DataW.trod_int Tryz.underlying3 k1
    obtain ⟨z2,q2,r2,w2⟩ := DataW.trod_string Tryz.underlying9 k2
    simp [cells3'_,cells9_] at q0 q1 q2
    subst q0; subst q1; subst q2
    refine ⟨⟨z0,z1,z2⟩,h1,?_⟩
    simp only [Prod.mk.injEq] at hD
    rw [hD.1,r0,r1,r2]
    rfl
  obtain ⟨f,hF⟩ := choose_lt hone
  refine ⟨(List.range len).map f,by simp,⟨by rw [tes_length]; simp,_,_,rfl,hl,?_⟩,?_⟩
  ·by_cases h0 : m = 0
   ·exact .inl h0
   ·obtain ⟨b,off,spot⟩ := a
    obtain ⟨g1,g2⟩ := hF 0 (by omega)
    have g3 := (World.cells?_some g1).2.2 0 (by omega)
    have hspot : spot = none := by simpa [Addr.add] using World.cell?_spot (g3.trans rfl)
    subst hspot
    refine .inr ⟨b,off,rfl,fun i v hv => ?_⟩
    have hi : i < len * 3 := by
     have := (List.getElem?_eq_some_iff.1 hv).1
     rw [tes_length] at this
     simpa using this
    have hk : i / 3 < len := by omega
    have hj : i % 3 < 3 := by omega
    have e1 : i = i / 3 * 3 + i % 3 := by omega
    rw [e1,tes_get (by simpa using hk) hj] at hv
    have g4 := (World.cells?_some (hF (i / 3) (by omega)).1).2.2 (i % 3) hj
    rw [addr_add,addr_add] at g4
    rw [e1,← Nat.add_assoc]
    simp only [List.getElem_map,List.getElem_range] at hv
    rw [g4,hv]
  ·refine .inr ⟨(List.range (m - len)).map fun j => D (len + j),?_⟩
   simp only [Prod.mk.injEq] at hx
   rw [hx.1,List.map_map]
   congr 1
   exact List.map_congr_left fun i hi => (hF i (by simp at hi; omega)).2
theorem okWide_agg {P : Program} {w : World} {r : Reach} {base : Nat} {t : TypeId} {fs : Array Field} {v : Value} (ht : P.underlying t = some (.struct fs)) (h : Value.okWide P w r base t v) : ∃ cs : Array Value,v = .agg cs := by
 unfold Value.okWide at h
 rw [ht] at h
 obtain ⟨cs,h1,_⟩ := h
 exact ⟨cs,h1⟩
theorem te_ready {W : World} {p : List MemPlace} {H : Type} {enc : TypeId × Value → H} {base : Nat} {d : DataW H} {cs : Array Value}
  (h0 : DataW.Trod enc Tryz.prog W base (fun _ => true) true 41 (.agg cs) d p) : ∃ e : TE,cs = (TE.cells e).toArray := by
 obtain ⟨fuel,hf⟩ := h0
 obtain ⟨y0,y1,y2,n',hD,hl3,k0,k1,k2⟩ := trod_struct3 Tryz.underlying41 hf
 rw [cells48_] at hl3
 have hc : (Value.agg cs).cells.toList = cs.toList := rfl
 rw [hc] at hl3 k0 k1 k2
 generalize hcs : cs.toList = l at hl3 k0 k1 k2
 match l,hl3 with
 | [c0,c1,c2],_ =>
  obtain ⟨z0,q0,r0,_⟩ := DataW.trod_int Tryz.underlying3 k0
  obtain ⟨z1,q1,r1,_⟩ := DataW.trod_int Tryz.underlying3 k1
  obtain ⟨z2,q2,r2,w2⟩ := DataW.trod_string Tryz.underlying9 k2
  simp [cells3'_,cells9_] at q0 q1 q2
  subst q0; subst q1; subst q2
  exact ⟨⟨z0,z1,z2⟩,by rw [← Array.toArray_toList (xs := cs),hcs]; rfl⟩
end Go.Proofs.YtcelfjbajdffkaaGreatDoor
