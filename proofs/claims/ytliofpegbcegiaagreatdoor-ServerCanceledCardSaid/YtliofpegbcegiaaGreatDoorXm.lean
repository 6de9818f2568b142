/- What the rows on the lexer lay: the table of white space, and a world that holds it. -/
import Derived.Test.YtliofpegbcegiaaGreatDoorXk
import Derived.Test.YtliofpegbcegiaaGreatDoorRows
import Derived.ProofKit
import Derived.SizedLaws
import Derived.LaidMore
import Derived.Lib.LaidTab
import Derived.Lib.LaidU8
import Derived.Lib.LaidIn
import Derived.ChangeMaps5
import Derived.Test.YtliofpegbcegiaaGreatDoorXd
import Derived.Deep.Strs
set_option linter.unusedVariables false
set_option linter.unusedSimpArgs false
namespace Go.Proofs.YtliofpegbcegiaaGreatDoor
open Go.ChangeShapes Go.WideShapes Go.ChangeAt Go.RowKit Go.Gx Go.Lib Go.Shelf
theorem own_ : ownKnob Tryz.prog.godebug = none := by kernel_rfl
theorem laidOut_ : laidOutB Tryz.prog = true := by kernel_rfl
def spLaid : List (String × DataW Unit) := [("unicode.White_Space",Rows.laid_unicode_White_Space),("strings.asciiSpace",Rows.laid_strings_asciiSpace)]
noncomputable def spWorld (os : Os) : World := World.doorLaid Tryz.prog 400 os
set_option maxRecDepth 1000000 in
theorem sp_met (os : Os) (args : Array Value) : laidMetH Tryz.prog spLaid ((spWorld os).forCall (fun _ _ => 0) ⟨#[],args,[]⟩).memory :=
 laidMetH_of_parts3 (fuel := 8) (laidMet_of_run' 8 (by kernel_rfl) (by kernel_rfl)) (by kernel_rfl) (by kernel_rfl)
end Go.Proofs.YtliofpegbcegiaaGreatDoor
namespace Go.Proofs.YtliofpegbcegiaaGreatDoor
open Lexi (Asc)
open Go.ChangeShapes Go.WideShapes Go.ChangeAt Go.RowKit Go.Gx Go.Lib Go.Shelf
theorem asc_eq : (Rows.laid_strings_asciiSpace : DataW Unit) = tabData .u8 asciiSpaceTab := by kernel_rfl
theorem asc_of {W : World} (h : laidMet Tryz.prog spLaid W) : Asc W := by
 obtain ⟨g,t,cs,fuel,p,hg,hty,hvar,hd⟩ := laidMet.reads h (.tail _ (.head _))
 rw [asc_eq] at hd
 obtain rfl := Option.some.inj ((show Tryz.prog.globalNamed "strings.asciiSpace" = some 1 by kernel_rfl).symm.trans hg)
 obtain rfl := Option.some.inj ((show (Tryz.prog.globals[1]?).map (·.type) = some 204 by kernel_rfl).symm.trans hty)
 unfold Asc TabIs
 rw [hvar,← cells_of_tab Tryz.underlying204 Tryz.underlying5 (by kernel_rfl) (by kernel_rfl) hd]
end Go.Proofs.YtliofpegbcegiaaGreatDoor
namespace Go.Proofs.YtliofpegbcegiaaGreatDoor
set_option maxRecDepth 20000
open Go.ChangeShapes Go.WideShapes Go.ChangeAt Go.RowKit Go.Gx Go.Deep
theorem cells9_ : Tryz.prog.cellsOf 9 = 1 := by kernel_rfl
theorem cells48_ : Tryz.prog.cellsOf 123 = 3 := by kernel_rfl
theorem cells3'_ : Tryz.prog.cellsOf 3 = 1 := by kernel_rfl
instance : Inhabited TE := ⟨⟨0,0,⟨#[]⟩⟩⟩
theorem tes_get {es : List TE} {k j : Nat} (hk : k < es.length) (hj : j < 3) : (tes es)[k * 3 + j]? = es[k].cells[j]? := by
 rw [← tes_at es k hk,List.getElem?_take,if_pos hj,List.getElem?_drop]
def TE.data {H : Type} (e : TE) : DataW H := .agg [.lit (.int .i64 e.a),.lit (.int .i64 e.b),.lit (.string e.s.data.toList)]
theorem TE.weighs {H : Type} {es : List TE} {e : TE} (he : e ∈ es) : e.s.size ∈ DataW.weightsAll Tryz.prog 123 (es.map (TE.data (H := H))) := by
 induction es with
 | nil => cases he
 | cons d es ih =>
  simp only [List.map_cons,DataW.weightsAll,List.mem_append]
  rcases List.mem_cons.1 he with rfl | he
  ·refine .inl ?_
   simp only [TE.data,DataW.weights]
   rw [Tryz.underlying123]
   exact List.mem_cons_self
  ·exact .inr (ih he)
theorem bytes48_ : Tryz.prog.bytesOf 123 = 32 := by kernel_rfl
theorem edits_in {W : World} {a0 : Option Addr} {len cap : Nat} {p : List MemPlace} {H : Type} {enc : TypeId × Value → H} {base : Nat} {d : DataW H}
  (h0 : DataW.Trod enc Tryz.prog W base (fun _ => true) true 25 (.slice a0 len cap) d p) : ∃ es : List TE,es.length = len ∧ SlC W (.slice a0 len cap) 3 len (tes es) ∧ (len = 0 ∨ ∃ rest,d = .slice (es.map TE.data) rest) := by
 obtain ⟨fuel,hf⟩ := h0
 rcases open_slice Tryz.underlying25 hf with ⟨hcs,hx⟩ | ⟨a,len',cap',m,n,D,Pl,hcs,hbs,hl,hm,hmm,hx,hcell⟩
 ·simp [Value.cells] at hcs
  obtain ⟨rfl,rfl,rfl⟩ := hcs
  exact ⟨[],rfl,⟨rfl,_,_,rfl,Nat.le_refl _,.inl rfl⟩,.inl rfl⟩
 ·simp [Value.cells] at hcs
  obtain ⟨rfl,rfl,rfl⟩ := hcs
  replace hmm : m = cap := by simpa using hmm
  subst hmm
  rw [cells48_] at hcell
  have hone : ∀ i,i < m → ∃ e : TE,W.cells? base (a.add (i * 3)) 3 = some e.cells ∧ D i = e.data := by
   intro i hi
   obtain ⟨cs',h1,h2⟩ := hcell i hi
   obtain ⟨y0,y1,y2,n',hD,hl3,k0,k1,k2⟩ := trod_struct3 Tryz.underlying123 h2
   rw [cells48_] at hl3
   match cs',hl3 with
   | [c0,c1,c2],_ =>
    obtain ⟨z0,q0,r0,_⟩ := DataW.trod_int Tryz.underlying3 k0
    obtain ⟨z1,q1,r1,_⟩ := DataW.trod_int Tryz.underlying3 k1
    obtain ⟨z2,q2,r2,w2⟩ := DataW.trod_string Tryz.underlying9 k2
    simp [cells3'_,cells9_] at q0 q1 q2
    subst q0; subst q1; subst q2
    refine ⟨⟨z0,z1,z2⟩,h1,?_⟩
    simp only [Prod.mk.injEq] at hD
    rw [hD.1,r0,r1,r2]
    rfl
  obtain ⟨f,hF⟩ := choose_lt hone
  refine ⟨(List.range len).map f,by simp,⟨by rw [tes_length]; simp,_,_,rfl,hl,?_⟩,?_⟩
  ·by_cases h0 : m = 0
   ·exact .inl h0
   ·obtain ⟨b,off,spot⟩ := a
    obtain ⟨g1,g2⟩ := hF 0 (by omega)
    have g3 := (World.cells?_some g1).2.2 0 (by omega)
    have hspot : spot = none := by simpa [Addr.add] using World.cell?_spot (g3.trans rfl)
    subst hspot
    refine .inr ⟨b,off,rfl,fun i v hv => ?_⟩
    have hi : i < len * 3 := by
     have := (List.getElem?_eq_some_iff.1 hv).1
     rw [tes_length] at this
     simpa using this
    have hk : i / 3 < len := by omega
    have hj : i % 3 < 3 := by omega
    have e1 : i = i / 3 * 3 + i % 3 := by omega
    rw [e1,tes_get (by simpa using hk) hj] at hv
    have g4 := (World.cells?_some (hF (i / 3) (by omega)).1).2.2 (i % 3) hj
    rw [addr_add,addr_add] at g4
    rw [e1,← Nat.add_assoc]
    simp only [List.getElem_map,List.getElem_range] at hv
    rw [g4,hv]
  ·refine .inr ⟨(List.range (m - len)).map fun j => D (len + j),?_⟩
   simp only [Prod.mk.injEq] at hx
   rw [hx.1,List.map_map]
   congr 1
   exact List.map_congr_left fun i hi => (hF i (by simp at hi; omega)).2
end Go.Proofs.YtliofpegbcegiaaGreatDoor
namespace Go.Proofs.YtliofpegbcegiaaGreatDoor
set_option maxRecDepth 20000
open Go.ChangeShapes Go.WideShapes Go.ChangeAt Go.RowKit Go.Gx Go.Deep
theorem cells27_ : Tryz.prog.cellsOf 27 = 5 := by kernel_rfl
theorem cells29_ : Tryz.prog.cellsOf 29 = 11 := by kernel_rfl
theorem cells25_ : Tryz.prog.cellsOf 25 = 1 := by kernel_rfl
theorem rq_in {H : Type} {enc : TypeId × Value → H} {W : World} {base : Nat} {spare : Nat → Bool} {held : Bool} {fuel : Nat} {cs : List Value} {x : DataW H × List MemPlace} (h : DataW.trod enc Tryz.prog W base spare held fuel 27 cs = some x) :
  ∃ r : Rq,cs = rc r ∧ x.1 = .agg [.lit (.int .i64 r.client),.lit (.int .i64 r.id),.lit (.int .i64 r.query),.lit (.int .i64 r.arg),.lit (.string r.name.data.toList)] := by
 obtain ⟨xs,n,_,rfl,hl,hlen,hf⟩ := DataW.trod_struct Tryz.underlying27 h
 rw [cells27_] at hl
 match xs,hlen,cs,hl with
 | [y0,y1,y2,y3,y4],_,[c0,c1,c2,c3,c4],_ =>
  have k0 := hf 0 _ rfl
  have k1 := hf 1 _ rfl
  have k2 := hf 2 _ rfl
  have k3 := hf 3 _ rfl
  have k4 := hf 4 _ rfl
  obtain ⟨z0,q0,r0,_⟩ := DataW.trod_int Tryz.underlying3 k0
  obtain ⟨z1,q1,r1,_⟩ := DataW.trod_int Tryz.underlying3 k1
  obtain ⟨z2,q2,r2,_⟩ := DataW.trod_int Tryz.underlying3 k2
  obtain ⟨z3,q3,r3,_⟩ := DataW.trod_int Tryz.underlying3 k3
  obtain ⟨z4,q4,r4,_⟩ := DataW.trod_string Tryz.underlying9 k4
  simp [cells3'_,cells9_] at q0 q1 q2 q3 q4 r0 r1 r2 r3 r4
  subst q0; subst q1; subst q2; subst q3; subst q4
  refine ⟨⟨z0,z1,z2,z3,z4⟩,rfl,?_⟩
  simp [r0,r1,r2,r3,r4]
theorem i64_max {n : Int} (h : (Lit.int .i64 n).wf = true) : n ≤ 9223372036854775807 := by
 simp only [Lit.wf,Bool.and_eq_true,decide_eq_true_eq] at h
 have := h.2
 simp [IntKind.has,IntKind.max,IntKind.signed,IntKind.bits] at this
 omega
theorem ev_in {H : Type} {enc : TypeId × Value → H} {W : World} {base : Nat} {fuel : Nat} {cs : List Value} {x : DataW H × List MemPlace} (h : DataW.trod enc Tryz.prog W base (fun _ => true) true fuel 29 cs = some x) :
  ∃ (p : Ev TE × Value) (d : DataW H),cs = evp p ∧ SlC W p.2 3 p.1.edits.length (tes p.1.edits) ∧ p.1.n ≤ 9223372036854775807 ∧ (p.1.edits.length = 0 ∨ ∃ rest,d = .slice (p.1.edits.map TE.data) rest) ∧
   ∃ dr,x.1 = .agg [.lit (.int .i64 p.1.kind),.lit (.int .i64 p.1.n),.lit (.int .i64 p.1.version),.lit (.string p.1.name.data.toList),.lit (.string p.1.text.data.toList),d,dr] := by
 obtain ⟨xs,n,_,rfl,hl,hlen,hf⟩ := DataW.trod_struct Tryz.underlying29 h
 rw [cells29_] at hl
 match xs,hlen,cs,hl with
 | [y0,y1,y2,y3,y4,y5,y6],_,[c0,c1,c2,c3,c4,c5,c6,c7,c8,c9,c10],_ =>
  have k0 := hf 0 _ rfl
  have k1 := hf 1 _ rfl
  have k2 := hf 2 _ rfl
  have k3 := hf 3 _ rfl
  have k4 := hf 4 _ rfl
  have k5 := hf 5 _ rfl
  have k6 := hf 6 _ rfl
  obtain ⟨z0,q0,r0,_⟩ := DataW.trod_int Tryz.underlying3 k0
  obtain ⟨z1,q1,r1,w1⟩ := DataW.trod_int Tryz.underlying3 k1
  obtain ⟨z2,q2,r2,_⟩ := DataW.trod_int Tryz.underlying3 k2
  obtain ⟨z3,q3,r3,_⟩ := DataW.trod_string Tryz.underlying9 k3
  obtain ⟨z4,q4,r4,_⟩ := DataW.trod_string Tryz.underlying9 k4
  simp [cells3'_,cells9_] at q0 q1 q2 q3 q4 r0 r1 r2 r3 r4
  subst q0; subst q1; subst q2; subst q3; subst q4
  obtain ⟨r,hr,hr2⟩ := rq_in k6
  obtain ⟨r1',r2',r3',r4',r5'⟩ := r
  simp [cells27_,rc] at hr
  obtain ⟨rfl,rfl,rfl,rfl,rfl⟩ := hr
  have k5' : DataW.trod enc Tryz.prog W base (fun _ => true) true n 25 [c5] = some y5 := by
   have k5b : DataW.trod enc Tryz.prog W base (fun _ => true) true n 25 (([.int .i64 z0,.int .i64 z1,.int .i64 z2,.string z3,.string z4,c5,.int .i64 r1',.int .i64 r2',.int .i64 r3',.int .i64 r4',.string r5'] : List Value).drop 5 |>.take (Tryz.prog.cellsOf 25)) = some y5 := k5
   rw [cells25_] at k5b
   exact k5b
  obtain ⟨a0,len,cap,rfl⟩ : ∃ a0 len cap,c5 = .slice a0 len cap := by
   rcases open_slice Tryz.underlying25 k5' with ⟨hcs,_⟩ | ⟨a,len',cap',m,n',D,Pl,hcs,_⟩
   ·simp at hcs; exact ⟨_,_,_,hcs⟩
   ·simp at hcs; exact ⟨_,_,_,hcs⟩
  obtain ⟨es,he,hsl,hd⟩ := edits_in (d := y5.1) (p := y5.2) ⟨n,k5'⟩
  subst he
  refine ⟨(⟨z0,z1,z2,z3,z4,es,⟨r1',r2',r3',r4',r5'⟩⟩,.slice a0 es.length cap),y5.1,rfl,hsl,i64_max w1,hd,y6.1,?_⟩
  simp [r0,r1,r2,r3,r4]
end Go.Proofs.YtliofpegbcegiaaGreatDoor
namespace Go.Proofs.YtliofpegbcegiaaGreatDoor
set_option maxRecDepth 20000
open Go.ChangeShapes Go.WideShapes Go.ChangeAt Go.RowKit Go.Gx Go.Deep
theorem evp_get {l : List (Ev TE × Value)} {k j : Nat} (hk : k < l.length) (hj : j < 11) : (encs evp l)[k * 11 + j]? = (evp l[k])[j]? := by
 rw [← encs_at evp_len l k hk,List.getElem?_take,if_pos hj,List.getElem?_drop]
def EvD {H : Type} (p : Ev TE × Value) (x : DataW H) : Prop := ∃ d dr,(p.1.edits.length = 0 ∨ ∃ rest,d = .slice (p.1.edits.map TE.data) rest) ∧
 x = .agg [.lit (.int .i64 p.1.kind),.lit (.int .i64 p.1.n),.lit (.int .i64 p.1.version),.lit (.string p.1.name.data.toList),.lit (.string p.1.text.data.toList),d,dr]
instance : Inhabited (Ev TE × Value) := ⟨(⟨0,0,0,noB,noB,[],⟨0,0,0,0,noB⟩⟩,.slice none 0 0)⟩
theorem events_in {W : World} {a0 : Option Addr} {len cap : Nat} {p : List MemPlace} {H : Type} {enc : TypeId × Value → H} {base : Nat} {d : DataW H}
  (h0 : DataW.Trod enc Tryz.prog W base (fun _ => true) true 22 (.slice a0 len cap) d p) : ∃ l : List (Ev TE × Value),l.length = len ∧ SlC W (.slice a0 len cap) 11 len (encs evp l) ∧ (∀ q ∈ l,SlC W q.2 3 q.1.edits.length (tes q.1.edits) ∧ q.1.n ≤ 9223372036854775807) ∧
   (len = 0 ∨ ∃ (D : Nat → DataW H) (rest : List (DataW H)),d = .slice ((List.range len).map D) rest ∧ ∀ i (h : i < l.length),EvD l[i] (D i)) := by
 obtain ⟨fuel,hf⟩ := h0
 rcases open_slice Tryz.underlying22 hf with ⟨hcs,hx⟩ | ⟨a,len',cap',m,n,D,Pl,hcs,hbs,hl,hm,hmm,hx,hcell⟩
 ·simp [Value.cells] at hcs
  obtain ⟨rfl,rfl,rfl⟩ := hcs
  exact ⟨[],rfl,⟨rfl,_,_,rfl,Nat.le_refl _,.inl rfl⟩,fun q hq => (by cases hq),.inl rfl⟩
 ·simp [Value.cells] at hcs
  obtain ⟨rfl,rfl,rfl⟩ := hcs
  replace hmm : m = cap := by simpa using hmm
  subst hmm
  rw [cells29_] at hcell
  have hone : ∀ i,i < m → ∃ e : Ev TE × Value,W.cells? base (a.add (i * 11)) 11 = some (evp e) ∧ (SlC W e.2 3 e.1.edits.length (tes e.1.edits) ∧ e.1.n ≤ 9223372036854775807) ∧ EvD e (D i) := by
   intro i hi
   obtain ⟨cs',h1,h2⟩ := hcell i hi
   obtain ⟨e,de,e1,e2,e3,e4,dr,e5⟩ := ev_in h2
   exact ⟨e,by rw [h1,e1],⟨e2,e3⟩,de,dr,e4,e5⟩
  obtain ⟨f,hF⟩ := choose_lt hone
  refine ⟨(List.range len).map f,by simp,⟨by rw [encs_len evp_len]; simp,_,_,rfl,hl,?_⟩,fun q hq => ?_,?_⟩
  ·by_cases h0 : m = 0
   ·exact .inl h0
   ·obtain ⟨b,off,spot⟩ := a
    obtain ⟨g1,g2⟩ := hF 0 (by omega)
    have g3 := (World.cells?_some g1).2.2 0 (by omega)
    have hspot : spot = none := by simpa [Addr.add] using World.cell?_spot (g3.trans rfl)
    subst hspot
    refine .inr ⟨b,off,rfl,fun i v hv => ?_⟩
    have hi : i < len * 11 := by
     have := (List.getElem?_eq_some_iff.1 hv).1
     rw [encs_len evp_len] at this
     simpa using this
    have hk : i / 11 < len := by omega
    have hj : i % 11 < 11 := by omega
    have e1 : i = i / 11 * 11 + i % 11 := by omega
    rw [e1,evp_get (by simpa using hk) hj] at hv
    have g4 := (World.cells?_some (hF (i / 11) (by omega)).1).2.2 (i % 11) hj
    rw [addr_add,addr_add] at g4
    rw [e1,← Nat.add_assoc]
    simp only [List.getElem_map,List.getElem_range] at hv
    rw [g4,hv]
  ·obtain ⟨i,hi,rfl⟩ := List.mem_map.1 hq
   exact (hF i (by have := List.mem_range.1 hi; omega)).2.1
  ·simp only [Prod.mk.injEq] at hx
   refine .inr ⟨D,_,hx.1,fun i hi => ?_⟩
   rw [List.length_map,List.length_range] at hi
   simp only [List.getElem_map,List.getElem_range]
   exact (hF i (by omega)).2.2
end Go.Proofs.YtliofpegbcegiaaGreatDoor
namespace Go.Proofs.YtliofpegbcegiaaGreatDoor
set_option maxRecDepth 20000
open Go.ChangeShapes Go.WideShapes Go.ChangeAt Go.RowKit Go.Gx Go.Deep
theorem ev_mem {H : Type} {p : Ev TE × Value} {x : DataW H} (h : EvD p x) : p.1.edits.length = 0 ∨ ∃ rest : List (DataW H),∀ wt,wt ∈ DataW.weights Tryz.prog 25 (.slice (p.1.edits.map TE.data) rest) → wt ∈ DataW.weights Tryz.prog 29 x := by
 obtain ⟨d,dr,h1,rfl⟩ := h
 refine h1.imp id ?_
 rintro ⟨rest,rfl⟩
 refine ⟨rest,fun wt hw => ?_⟩
 unfold DataW.weights
 rw [Tryz.underlying29]
 show wt ∈ DataW.weightsEach Tryz.prog [3,3,3,9,9,25,27] _
 simp only [DataW.weightsEach,List.mem_append]
 exact .inr (.inr (.inr (.inr (.inr (.inl hw)))))
theorem all_mem {H : Type} {e : TypeId} {wt : Nat} : ∀ {l : List (DataW H)} {x : DataW H},x ∈ l → wt ∈ DataW.weights Tryz.prog e x → wt ∈ DataW.weightsAll Tryz.prog e l
 | a :: l,x,hx,hw => by
  simp only [DataW.weightsAll,List.mem_append]
  rcases List.mem_cons.1 hx with rfl | hx
  ·exact .inl hw
  ·exact .inr (all_mem hx hw)
theorem ev_small {H : Type} {p : Ev TE × Value} {x : DataW H} (h : EvD p x) (hw : ∀ wt ∈ DataW.weights Tryz.prog 29 x,wt ≤ reachBytes) : p.1.edits.length < 4611686018427387904 ∧ ∀ e ∈ p.1.edits,(e.s.size : Int) ≤ 140737488355328 := by
 rcases ev_mem h with h0 | ⟨rest,h1⟩
 ·have : p.1.edits = [] := List.length_eq_zero_iff.1 h0
  rw [this]
  exact ⟨by decide,fun e he => by cases he⟩
 ·have h2 : ∀ wt,wt ∈ DataW.weights Tryz.prog 25 (.slice (p.1.edits.map TE.data) rest) → wt ≤ reachBytes := fun wt hwt => hw wt (h1 wt hwt)
  simp only [DataW.weights,Tryz.underlying25,List.mem_cons,List.mem_append] at h2
  constructor
  ·have := h2 _ (.inl rfl)
   rw [bytes48_] at this
   simp only [List.length_map,reachBytes] at this
   omega
  ·intro e he
   have := h2 _ (.inr (.inl (TE.weighs he)))
   unfold reachBytes at this
   omega
theorem events_sized {H : Type} {ts : List TypeId} {ds : List (DataW H)} (h : (DataW.weightsEach Tryz.prog ts ds).all (· ≤ reachBytes) = true) {j : Nat} {D : Nat → DataW H} {n : Nat} {rest : List (DataW H)} (ht : ts[j]? = some 22) (hd : ds[j]? = some (.slice ((List.range n).map D) rest)) :
  n ≤ 9223372036854775807 ∧ ∀ i,i < n → ∀ p,EvD p (D i) → p.1.edits.length < 4611686018427387904 ∧ ∀ e ∈ p.1.edits,(e.s.size : Int) ≤ 140737488355328 := by
 refine ⟨?_,fun i hi p hp => ev_small hp fun wt hw => ?_⟩
 ·have := sized_slice h ht hd Tryz.underlying22
  rw [show Tryz.prog.bytesOf 29 = 128 from by kernel_rfl] at this
  simp only [List.length_map,List.length_range,reachBytes] at this
  omega
 ·have := List.all_eq_true.1 h wt (DataW.weights_mem_each ht hd _ (by
   simp only [DataW.weights,Tryz.underlying22,List.mem_cons,List.mem_append]
   exact .inr (.inl (all_mem (List.mem_map.2 ⟨i,List.mem_range.2 hi,rfl⟩) hw))))
  exact of_decide_eq_true this
theorem events_ready {W : World} {a0 : Option Addr} {len cap : Nat} {p : List MemPlace} {H : Type} {enc : TypeId × Value → H} {base : Nat} {d : DataW H} {ts : List TypeId} {ds : List (DataW H)}
  (h0 : DataW.Trod enc Tryz.prog W base (fun _ => true) true 22 (.slice a0 len cap) d p) (h : (DataW.weightsEach Tryz.prog ts ds).all (· ≤ reachBytes) = true) {j : Nat} (ht : ts[j]? = some 22) (hd : ds[j]? = some d) :
  ∃ l : List (Ev TE × Value),SlC W (.slice a0 len cap) 11 l.length (encs evp l) ∧ (∀ q ∈ l,EvOk W q) ∧ l.length ≤ 9223372036854775807 := by
 obtain ⟨l,rfl,hs,hq,hD⟩ := events_in h0
 rcases hD with h0 | ⟨D,rest,rfl,hD⟩
 ·obtain rfl := List.length_eq_zero_iff.1 h0
  exact ⟨[],hs,fun q hq => (by cases hq),by simp⟩
 ·obtain ⟨s1,s2⟩ := events_sized h ht hd
  refine ⟨l,hs,fun q hm => ?_,s1⟩
  obtain ⟨i,hi,rfl⟩ := List.getElem_of_mem hm
  obtain ⟨z1,z2⟩ := s2 i hi _ (hD i hi)
  exact ⟨(hq _ hm).1,z1,z2,(hq _ hm).2⟩
end Go.Proofs.YtliofpegbcegiaaGreatDoor
namespace Go.Proofs.YtliofpegbcegiaaGreatDoor
set_option maxRecDepth 20000
open Go.ChangeShapes Go.WideShapes Go.ChangeAt Go.RowKit Go.Gx Go.Deep
theorem okWide_agg {P : Program} {w : World} {r : Reach} {base : Nat} {t : TypeId} {fs : Array Field} {v : Value} (ht : P.underlying t = some (.struct fs)) (h : Value.okWide P w r base t v) : ∃ cs : Array Value,v = .agg cs := by
 unfold Value.okWide at h
 rw [ht] at h
 obtain ⟨cs,h1,_⟩ := h
 exact ⟨cs,h1⟩
theorem rq_ready {H : Type} {enc : TypeId × Value → H} {W : World} {base : Nat} {spare : Nat → Bool} {held : Bool} {cs : Array Value} {d : DataW H} {ps : List MemPlace} (h : DataW.Trod enc Tryz.prog W base spare held 27 (.agg cs) d ps) : ∃ r : Rq,cs = (rc r).toArray := by
 obtain ⟨fuel,hf⟩ := h
 obtain ⟨r,h1,_⟩ := rq_in hf
 exact ⟨r,Array.toList_inj.1 h1⟩
theorem ev_ready {H : Type} {enc : TypeId × Value → H} {W : World} {base : Nat} {cs : Array Value} {d : DataW H} {ps : List MemPlace} {ts : List TypeId} {ds : List (DataW H)} (h0 : DataW.Trod enc Tryz.prog W base (fun _ => true) true 29 (.agg cs) d ps)
  (h : (DataW.weightsEach Tryz.prog ts ds).all (· ≤ reachBytes) = true) {j : Nat} (ht : ts[j]? = some 29) (hd : ds[j]? = some d) : ∃ (e : Ev TE) (ve : Value),cs = (evc e ve).toArray ∧ EvOk W (e,ve) := by
 obtain ⟨fuel,hf⟩ := h0
 obtain ⟨p,d',h1,h2,h3,h4,dr,h5⟩ := ev_in hf
 obtain ⟨z1,z2⟩ := ev_small (p := p) (x := d) ⟨d',dr,h4,h5⟩ fun wt hw => of_decide_eq_true (List.all_eq_true.1 h wt (DataW.weights_mem_each ht hd _ hw))
 exact ⟨p.1,p.2,Array.toList_inj.1 h1,h2,z1,z2,h3⟩
end Go.Proofs.YtliofpegbcegiaaGreatDoor
