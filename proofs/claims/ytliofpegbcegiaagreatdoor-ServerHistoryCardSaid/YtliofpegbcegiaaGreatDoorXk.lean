/- The walks of the server's Handle, New, Modules, Pending, Version. Printed by r5/srvu.py. -/
import Derived.Test.YtliofpegbcegiaaGreatDoorXj
set_option linter.unusedVariables false
set_option linter.unusedSimpArgs false
namespace Go.Proofs.YtliofpegbcegiaaGreatDoor
set_option maxRecDepth 20000
open Go.Gx Go.RowKit Go.Lib
open Lexi (Asc)
def evc (e : Ev TE) (ve : Value) : List Value := [.int .i64 e.kind,.int .i64 e.n,.int .i64 e.version,.string e.name,.string e.text,ve,.int .i64 e.req.client,.int .i64 e.req.id,.int .i64 e.req.query,.int .i64 e.req.arg,.string e.req.name]
theorem evict_ok {F : Fs} {w : World} {q : DbQ} {db : DB} {n : Int} (hA : DbA F w q db) (hF : Und F w.heap.size) (hi : DbInv db) (hck : db.clock ≤ 1000000000) (hl : db.res.length ≤ 12) (hn : 0 ≤ n ∧ n ≤ 9223372036854775807) :
  Cl Tryz.prog 36 #[.pointer (some ⟨q.bD,0,none⟩),.int .i64 n] w (fun u w' => (∃ q',DbA F w' q' { db with res := trim db.res n } ∧ q'.bD = q.bD) ∧ Kd F w w') := by
 have hres := hA.rel.res
 have h1 : q.rs.map (·.1) = db.res.map (·.1) := by rw [← hres,List.map_map]; rfl
 have h2 : q.rs.map (·.2.2.last) = db.res.map (·.2.last) := by rw [← hres,List.map_map]; rfl
 refine (trim_ok hA.D hA.fl hF (by rw [← List.length_map (f := fun p : K3 × (Nat × Res) => (p.1,p.2.2)),hres]; exact hl) (fun x hx => ?_) hn).mono ?_
 ·have := hi.rng (x.1,x.2.2) (by rw [← hres]; exact List.mem_map_of_mem (f := fun p : K3 × (Nat × Res) => (p.1,p.2.2)) hx)
  simp only at this
  omega
 ·rintro u w' ⟨ks,hp,hs,hD,kd⟩
  refine ⟨⟨_,⟨hD,hA.fl.sub (foldl_del_sub _ _),⟨hA.rel.ins,?_,hA.rel.comps,hA.rel.clock⟩,hA.act,hA.stop⟩,rfl⟩,kd⟩
  simp only
  rw [trim_plain hn.1 (by rw [h1]; exact hi.keys) (by rw [h2]; exact hi.lasts) hp hs,hres]
theorem handle_ok {F : Fs} {w : World} {s : SvQ} {st : St} {e : Ev TE} {ve : Value} (h : SvW F w s st) (hF : Und F w.heap.size) (hA : Asc w) (hf : Fine st) (hi : DbInv st.db) (hes : SlC w ve 3 e.edits.length (tes e.edits)) (hlen : e.edits.length < 4611686018427387904) (hb : ∀ x ∈ e.edits,(x.s.size : Int) ≤ 140737488355328) (h12 : e.kind = 7 → st.db.res.length ≤ 12) (hmax : e.n ≤ 9223372036854775807) :
  Cl Tryz.prog 17 #[.pointer (some ⟨s.bS,0,none⟩),.agg (evc e ve).toArray] w (fun u w' => (∃ v,u = .tuple #[v,.int .i64 (handleS Cx st e).2.2] ∧ RsW w.heap.size w' v (handleS Cx st e).2.1) ∧ (∃ s',SvW F w' s' (handleS Cx st e).1 ∧ s'.bS = s.bS) ∧ Ks F w w') := by
 have hx := Ext.refl w
 obtain ⟨_,pe,ce,rfl,_⟩ := id hes
 obtain ⟨kind,n,version,name,text,es,r⟩ := e
 obtain ⟨rcl,rid,rq,ra,rn⟩ := r
 simp only at hes hlen hb h12 hmax
 simp only [evc]
 by_cases k1 : kind = 1
 ·have hH : handleS Cx st ⟨kind,n,version,name,text,es,⟨rcl,rid,rq,ra,rn⟩⟩ = ((writeS Cx st name text).1,[],(writeS Cx st name text).2) := by unfold handleS; rw [if_pos k1]
  rw [hH]
  refine Cl.enter Tryz.func17 rfl Tryz.ntmps17 rfl rfl ?_
  refine Wp.seq (Wp.region ?_)
  refine Rg.wd trivial (w_boxed rfl rfl) rfl ?_
  rintro _ w1 ⟨b3,rfl,qb3,hx1,hv3⟩
  replace hx := hx.ext hx1
  have hc3 := hv3.cells
  refine Rg.tm trivial rfl (t_assign rfl) rfl ?_
  refine Rg.tm trivial rfl (t_assign rfl) rfl ?_
  refine Rg.done ?_
  refine Wp.seq ?_
  refine Wp.seq (Wp.region ?_)
  refine Rg.tm trivial rfl (t_fieldAddr fa29_0 rfl) rfl ?_
  refine Rg.tm trivial rfl (t_load ty3 rfl (Cells.get (i := 0) hc3 rfl)) rfl ?_
  refine Rg.done ?_
  refine Wp.block ?_
  refine Wp.seq (Wp.region ?_)
  first | refine Rg.tm trivial rfl (t_eqlT rfl rfl (by omega)) rfl ?_ | refine Rg.tm trivial rfl (t_eqlF rfl rfl (by omega)) rfl ?_ | refine Rg.tm trivial rfl (t_eql rfl rfl) rfl ?_
  refine Rg.tm trivial rfl (t_assign rfl) rfl ?_
  refine Rg.done ?_
  refine Wp.condT rfl ?_
  refine Wp.seq (Wp.region ?_)
  refine Rg.tm trivial rfl (t_move rfl) rfl ?_
  refine Rg.tm trivial rfl (t_fieldAddr fa29_3 rfl) rfl ?_
  refine Rg.tm trivial rfl (t_load ty9 rfl (Cells.get (i := 3) hc3 rfl)) rfl ?_
  refine Rg.tm trivial rfl (t_fieldAddr fa29_4 rfl) rfl ?_
  refine Rg.tm trivial rfl (t_load ty9 rfl (Cells.get (i := 4) hc3 rfl)) rfl ?_
  refine Rg.wd trivial (w_call Tryz.call30 rfl (write_ok (h.ext hx) (fun z hz => Nat.lt_of_lt_of_le (hF z hz) hx.le) (hA.ext hx) hf)) rfl ?_
  rintro _ wR ⟨rfl,hR,hk⟩
  refine Rg.tm trivial rfl (t_assign rfl) rfl ?_
  refine Rg.tm trivial rfl (t_assign rfl) rfl ?_
  refine Rg.done ?_
  refine Wp.ret ?_
  exact ⟨[_,_],⟨rfl,rfl,trivial⟩,⟨_,rfl,RsW.nil _ _⟩,hR,(hx.ks hF).trans hk⟩
 by_cases k2 : kind = 2
 ·have hH : handleS Cx st ⟨kind,n,version,name,text,es,⟨rcl,rid,rq,ra,rn⟩⟩ = ((removeS Cx st name).1,[],(removeS Cx st name).2) := by unfold handleS; rw [if_neg k1]; rw [if_pos k2]
  rw [hH]
  refine Cl.enter Tryz.func17 rfl Tryz.ntmps17 rfl rfl ?_
  refine Wp.seq (Wp.region ?_)
  refine Rg.wd trivial (w_boxed rfl rfl) rfl ?_
  rintro _ w1 ⟨b3,rfl,qb3,hx1,hv3⟩
  replace hx := hx.ext hx1
  have hc3 := hv3.cells
  refine Rg.tm trivial rfl (t_assign rfl) rfl ?_
  refine Rg.tm trivial rfl (t_assign rfl) rfl ?_
  refine Rg.done ?_
  refine Wp.seq ?_
  refine Wp.seq (Wp.region ?_)
  refine Rg.tm trivial rfl (t_fieldAddr fa29_0 rfl) rfl ?_
  refine Rg.tm trivial rfl (t_load ty3 rfl (Cells.get (i := 0) hc3 rfl)) rfl ?_
  refine Rg.done ?_
  refine Wp.block ?_
  refine Wp.seq (Wp.region ?_)
  first | refine Rg.tm trivial rfl (t_eqlT rfl rfl (by omega)) rfl ?_ | refine Rg.tm trivial rfl (t_eqlF rfl rfl (by omega)) rfl ?_ | refine Rg.tm trivial rfl (t_eql rfl rfl) rfl ?_
  refine Rg.tm trivial rfl (t_assign rfl) rfl ?_
  refine Rg.done ?_
  refine Wp.condF rfl ?_
  refine Wp.seq (Wp.region ?_)
  first | refine Rg.tm trivial rfl (t_eqlT rfl rfl (by omega)) rfl ?_ | refine Rg.tm trivial rfl (t_eqlF rfl rfl (by omega)) rfl ?_ | refine Rg.tm trivial rfl (t_eql rfl rfl) rfl ?_
  refine Rg.tm trivial rfl (t_assign rfl) rfl ?_
  refine Rg.done ?_
  refine Wp.condT rfl ?_
  refine Wp.seq (Wp.region ?_)
  refine Rg.tm trivial rfl (t_move rfl) rfl ?_
  refine Rg.tm trivial rfl (t_fieldAddr fa29_3 rfl) rfl ?_
  refine Rg.tm trivial rfl (t_load ty9 rfl (Cells.get (i := 3) hc3 rfl)) rfl ?_
  refine Rg.wd trivial (w_call Tryz.call31 rfl (remove_ok (h.ext hx) (fun z hz => Nat.lt_of_lt_of_le (hF z hz) hx.le) (hA.ext hx) hf)) rfl ?_
  rintro _ wR ⟨rfl,hR,hk⟩
  refine Rg.tm trivial rfl (t_assign rfl) rfl ?_
  refine Rg.tm trivial rfl (t_assign rfl) rfl ?_
  refine Rg.done ?_
  refine Wp.ret ?_
  exact ⟨[_,_],⟨rfl,rfl,trivial⟩,⟨_,rfl,RsW.nil _ _⟩,hR,(hx.ks hF).trans hk⟩
 by_cases k3 : kind = 3
 ·have hH : handleS Cx st ⟨kind,n,version,name,text,es,⟨rcl,rid,rq,ra,rn⟩⟩ = ((editS Cx st name version es).1,[],(editS Cx st name version es).2) := by unfold handleS; rw [if_neg k1]; rw [if_neg k2]; rw [if_pos k3]
  rw [hH]
  refine Cl.enter Tryz.func17 rfl Tryz.ntmps17 rfl rfl ?_
  refine Wp.seq (Wp.region ?_)
  refine Rg.wd trivial (w_boxed rfl rfl) rfl ?_
  rintro _ w1 ⟨b3,rfl,qb3,hx1,hv3⟩
  replace hx := hx.ext hx1
  have hc3 := hv3.cells
  refine Rg.tm trivial rfl (t_assign rfl) rfl ?_
  refine Rg.tm trivial rfl (t_assign rfl) rfl ?_
  refine Rg.done ?_
  refine Wp.seq ?_
  refine Wp.seq (Wp.region ?_)
  refine Rg.tm trivial rfl (t_fieldAddr fa29_0 rfl) rfl ?_
  refine Rg.tm trivial rfl (t_load ty3 rfl (Cells.get (i := 0) hc3 rfl)) rfl ?_
  refine Rg.done ?_
  refine Wp.block ?_
  refine Wp.seq (Wp.region ?_)
  first | refine Rg.tm trivial rfl (t_eqlT rfl rfl (by omega)) rfl ?_ | refine Rg.tm trivial rfl (t_eqlF rfl rfl (by omega)) rfl ?_ | refine Rg.tm trivial rfl (t_eql rfl rfl) rfl ?_
  refine Rg.tm trivial rfl (t_assign rfl) rfl ?_
  refine Rg.done ?_
  refine Wp.condF rfl ?_
  refine Wp.seq (Wp.region ?_)
  first | refine Rg.tm trivial rfl (t_eqlT rfl rfl (by omega)) rfl ?_ | refine Rg.tm trivial rfl (t_eqlF rfl rfl (by omega)) rfl ?_ | refine Rg.tm trivial rfl (t_eql rfl rfl) rfl ?_
  refine Rg.tm trivial rfl (t_assign rfl) rfl ?_
  refine Rg.done ?_
  refine Wp.condF rfl ?_
  refine Wp.seq (Wp.region ?_)
  first | refine Rg.tm trivial rfl (t_eqlT rfl rfl (by omega)) rfl ?_ | refine Rg.tm trivial rfl (t_eqlF rfl rfl (by omega)) rfl ?_ | refine Rg.tm trivial rfl (t_eql rfl rfl) rfl ?_
  refine Rg.tm trivial rfl (t_assign rfl) rfl ?_
  refine Rg.done ?_
  refine Wp.condT rfl ?_
  refine Wp.seq (Wp.region ?_)
  refine Rg.tm trivial rfl (t_move rfl) rfl ?_
  refine Rg.tm trivial rfl (t_fieldAddr fa29_3 rfl) rfl ?_
  refine Rg.tm trivial rfl (t_load ty9 rfl (Cells.get (i := 3) hc3 rfl)) rfl ?_
  refine Rg.tm trivial rfl (t_fieldAddr fa29_2 rfl) rfl ?_
  refine Rg.tm trivial rfl (t_load ty3 rfl (Cells.get (i := 2) hc3 rfl)) rfl ?_
  refine Rg.tm trivial rfl (t_fieldAddr fa29_5 rfl) rfl ?_
  refine Rg.tm trivial rfl (t_load ty25 rfl (Cells.get (i := 5) hc3 rfl)) rfl ?_
  refine Rg.wd trivial (w_call Tryz.call32 rfl (edit_ok (h.ext hx) (fun z hz => Nat.lt_of_lt_of_le (hF z hz) hx.le) (hA.ext hx) hf (hes.ext hx) hlen hb)) rfl ?_
  rintro _ wR ⟨rfl,hR,hk⟩
  refine Rg.tm trivial rfl (t_assign rfl) rfl ?_
  refine Rg.tm trivial rfl (t_assign rfl) rfl ?_
  refine Rg.done ?_
  refine Wp.ret ?_
  exact ⟨[_,_],⟨rfl,rfl,trivial⟩,⟨_,rfl,RsW.nil _ _⟩,hR,(hx.ks hF).trans hk⟩
 by_cases k4 : kind = 4
 ·have hH : handleS Cx st ⟨kind,n,version,name,text,es,⟨rcl,rid,rq,ra,rn⟩⟩ = ((requestS st ⟨rcl,rid,rq,ra,rn⟩).1,[],(requestS st ⟨rcl,rid,rq,ra,rn⟩).2) := by unfold handleS; rw [if_neg k1]; rw [if_neg k2]; rw [if_neg k3]; rw [if_pos k4]
  rw [hH]
  refine Cl.enter Tryz.func17 rfl Tryz.ntmps17 rfl rfl ?_
  refine Wp.seq (Wp.region ?_)
  refine Rg.wd trivial (w_boxed rfl rfl) rfl ?_
  rintro _ w1 ⟨b3,rfl,qb3,hx1,hv3⟩
  replace hx := hx.ext hx1
  have hc3 := hv3.cells
  refine Rg.tm trivial rfl (t_assign rfl) rfl ?_
  refine Rg.tm trivial rfl (t_assign rfl) rfl ?_
  refine Rg.done ?_
  refine Wp.seq ?_
  refine Wp.seq (Wp.region ?_)
  refine Rg.tm trivial rfl (t_fieldAddr fa29_0 rfl) rfl ?_
  refine Rg.tm trivial rfl (t_load ty3 rfl (Cells.get (i := 0) hc3 rfl)) rfl ?_
  refine Rg.done ?_
  refine Wp.block ?_
  refine Wp.seq (Wp.region ?_)
  first | refine Rg.tm trivial rfl (t_eqlT rfl rfl (by omega)) rfl ?_ | refine Rg.tm trivial rfl (t_eqlF rfl rfl (by omega)) rfl ?_ | refine Rg.tm trivial rfl (t_eql rfl rfl) rfl ?_
  refine Rg.tm trivial rfl (t_assign rfl) rfl ?_
  refine Rg.done ?_
  refine Wp.condF rfl ?_
  refine Wp.seq (Wp.region ?_)
  first | refine Rg.tm trivial rfl (t_eqlT rfl rfl (by omega)) rfl ?_ | refine Rg.tm trivial rfl (t_eqlF rfl rfl (by omega)) rfl ?_ | refine Rg.tm trivial rfl (t_eql rfl rfl) rfl ?_
  refine Rg.tm trivial rfl (t_assign rfl) rfl ?_
  refine Rg.done ?_
  refine Wp.condF rfl ?_
  refine Wp.seq (Wp.region ?_)
  first | refine Rg.tm trivial rfl (t_eqlT rfl rfl (by omega)) rfl ?_ | refine Rg.tm trivial rfl (t_eqlF rfl rfl (by omega)) rfl ?_ | refine Rg.tm trivial rfl (t_eql rfl rfl) rfl ?_
  refine Rg.tm trivial rfl (t_assign rfl) rfl ?_
  refine Rg.done ?_
  refine Wp.condF rfl ?_
  refine Wp.seq (Wp.region ?_)
  first | refine Rg.tm trivial rfl (t_eqlT rfl rfl (by omega)) rfl ?_ | refine Rg.tm trivial rfl (t_eqlF rfl rfl (by omega)) rfl ?_ | refine Rg.tm trivial rfl (t_eql rfl rfl) rfl ?_
  refine Rg.tm trivial rfl (t_assign rfl) rfl ?_
  refine Rg.done ?_
  refine Wp.condT rfl ?_
  refine Wp.seq (Wp.region ?_)
  refine Rg.tm trivial rfl (t_move rfl) rfl ?_
  refine Rg.tm trivial rfl (t_fieldAddr fa29_6 rfl) rfl ?_
  have h36 : Cells _ b3 (0 + 6) [.int .i64 rcl,.int .i64 rid,.int .i64 rq,.int .i64 ra,.string rn] := hc3.sub 6 5
  refine Rg.tm trivial rfl (t_loadA rfl h36 ty27) rfl ?_
  refine Rg.wd trivial (w_call Tryz.call33 rfl (request_ok (r := ⟨rcl,rid,rq,ra,rn⟩) (h.ext hx) (fun z hz => Nat.lt_of_lt_of_le (hF z hz) hx.le) hf)) rfl ?_
  rintro _ wR ⟨rfl,hR,hk⟩
  refine Rg.tm trivial rfl (t_assign rfl) rfl ?_
  refine Rg.tm trivial rfl (t_assign rfl) rfl ?_
  refine Rg.done ?_
  refine Wp.ret ?_
  exact ⟨[_,_],⟨rfl,rfl,trivial⟩,⟨_,rfl,RsW.nil _ _⟩,hR,(hx.ks hF).trans hk⟩
 by_cases k5 : kind = 5
 ·have hH : handleS Cx st ⟨kind,n,version,name,text,es,⟨rcl,rid,rq,ra,rn⟩⟩ = cancelS st rcl rid := by unfold handleS; rw [if_neg k1]; rw [if_neg k2]; rw [if_neg k3]; rw [if_neg k4]; rw [if_pos k5]
  rw [hH]
  refine Cl.enter Tryz.func17 rfl Tryz.ntmps17 rfl rfl ?_
  refine Wp.seq (Wp.region ?_)
  refine Rg.wd trivial (w_boxed rfl rfl) rfl ?_
  rintro _ w1 ⟨b3,rfl,qb3,hx1,hv3⟩
  replace hx := hx.ext hx1
  have hc3 := hv3.cells
  refine Rg.tm trivial rfl (t_assign rfl) rfl ?_
  refine Rg.tm trivial rfl (t_assign rfl) rfl ?_
  refine Rg.done ?_
  refine Wp.seq ?_
  refine Wp.seq (Wp.region ?_)
  refine Rg.tm trivial rfl (t_fieldAddr fa29_0 rfl) rfl ?_
  refine Rg.tm trivial rfl (t_load ty3 rfl (Cells.get (i := 0) hc3 rfl)) rfl ?_
  refine Rg.done ?_
  refine Wp.block ?_
  refine Wp.seq (Wp.region ?_)
  first | refine Rg.tm trivial rfl (t_eqlT rfl rfl (by omega)) rfl ?_ | refine Rg.tm trivial rfl (t_eqlF rfl rfl (by omega)) rfl ?_ | refine Rg.tm trivial rfl (t_eql rfl rfl) rfl ?_
  refine Rg.tm trivial rfl (t_assign rfl) rfl ?_
  refine Rg.done ?_
  refine Wp.condF rfl ?_
  refine Wp.seq (Wp.region ?_)
  first | refine Rg.tm trivial rfl (t_eqlT rfl rfl (by omega)) rfl ?_ | refine Rg.tm trivial rfl (t_eqlF rfl rfl (by omega)) rfl ?_ | refine Rg.tm trivial rfl (t_eql rfl rfl) rfl ?_
  refine Rg.tm trivial rfl (t_assign rfl) rfl ?_
  refine Rg.done ?_
  refine Wp.condF rfl ?_
  refine Wp.seq (Wp.region ?_)
  first | refine Rg.tm trivial rfl (t_eqlT rfl rfl (by omega)) rfl ?_ | refine Rg.tm trivial rfl (t_eqlF rfl rfl (by omega)) rfl ?_ | refine Rg.tm trivial rfl (t_eql rfl rfl) rfl ?_
  refine Rg.tm trivial rfl (t_assign rfl) rfl ?_
  refine Rg.done ?_
  refine Wp.condF rfl ?_
  refine Wp.seq (Wp.region ?_)
  first | refine Rg.tm trivial rfl (t_eqlT rfl rfl (by omega)) rfl ?_ | refine Rg.tm trivial rfl (t_eqlF rfl rfl (by omega)) rfl ?_ | refine Rg.tm trivial rfl (t_eql rfl rfl) rfl ?_
  refine Rg.tm trivial rfl (t_assign rfl) rfl ?_
  refine Rg.done ?_
  refine Wp.condF rfl ?_
  refine Wp.seq (Wp.region ?_)
  first | refine Rg.tm trivial rfl (t_eqlT rfl rfl (by omega)) rfl ?_ | refine Rg.tm trivial rfl (t_eqlF rfl rfl (by omega)) rfl ?_ | refine Rg.tm trivial rfl (t_eql rfl rfl) rfl ?_
  refine Rg.tm trivial rfl (t_assign rfl) rfl ?_
  refine Rg.done ?_
  refine Wp.condT rfl ?_
  refine Wp.seq (Wp.region ?_)
  refine Rg.tm trivial rfl (t_move rfl) rfl ?_
  refine Rg.tm trivial rfl (t_fieldAddr fa29_6 rfl) rfl ?_
  refine Rg.tm trivial rfl (t_fieldAddr fa27_0 rfl) rfl ?_
  refine Rg.tm trivial rfl (t_load ty3 rfl (Cells.get (i := 6) hc3 rfl)) rfl ?_
  refine Rg.tm trivial rfl (t_fieldAddr fa29_6 rfl) rfl ?_
  refine Rg.tm trivial rfl (t_fieldAddr fa27_1 rfl) rfl ?_
  refine Rg.tm trivial rfl (t_load ty3 rfl (Cells.get (i := 7) hc3 rfl)) rfl ?_
  refine Rg.wd trivial (w_call Tryz.call34 rfl (cancel_ok (h.ext hx) (fun z hz => Nat.lt_of_lt_of_le (hF z hz) hx.le) hf)) rfl ?_
  rintro _ wR ⟨⟨vR,rfl,hrR⟩,hR,hk⟩
  refine Rg.tm trivial rfl (t_extract rfl rfl) rfl ?_
  refine Rg.tm trivial rfl (t_extract rfl rfl) rfl ?_
  refine Rg.tm trivial rfl (t_assign rfl) rfl ?_
  refine Rg.tm trivial rfl (t_assign rfl) rfl ?_
  refine Rg.done ?_
  refine Wp.ret ?_
  exact ⟨[_,_],⟨rfl,rfl,trivial⟩,⟨_,rfl,hrR.mono hx.le⟩,hR,(hx.ks hF).trans hk⟩
 by_cases k6 : kind = 6
 ·have hH : handleS Cx st ⟨kind,n,version,name,text,es,⟨rcl,rid,rq,ra,rn⟩⟩ = runS st n := by unfold handleS; rw [if_neg k1]; rw [if_neg k2]; rw [if_neg k3]; rw [if_neg k4]; rw [if_neg k5]; rw [if_pos k6]
  rw [hH]
  refine Cl.enter Tryz.func17 rfl Tryz.ntmps17 rfl rfl ?_
  refine Wp.seq (Wp.region ?_)
  refine Rg.wd trivial (w_boxed rfl rfl) rfl ?_
  rintro _ w1 ⟨b3,rfl,qb3,hx1,hv3⟩
  replace hx := hx.ext hx1
  have hc3 := hv3.cells
  refine Rg.tm trivial rfl (t_assign rfl) rfl ?_
  refine Rg.tm trivial rfl (t_assign rfl) rfl ?_
  refine Rg.done ?_
  refine Wp.seq ?_
  refine Wp.seq (Wp.region ?_)
  refine Rg.tm trivial rfl (t_fieldAddr fa29_0 rfl) rfl ?_
  refine Rg.tm trivial rfl (t_load ty3 rfl (Cells.get (i := 0) hc3 rfl)) rfl ?_
  refine Rg.done ?_
  refine Wp.block ?_
  refine Wp.seq (Wp.region ?_)
  first | refine Rg.tm trivial rfl (t_eqlT rfl rfl (by omega)) rfl ?_ | refine Rg.tm trivial rfl (t_eqlF rfl rfl (by omega)) rfl ?_ | refine Rg.tm trivial rfl (t_eql rfl rfl) rfl ?_
  refine Rg.tm trivial rfl (t_assign rfl) rfl ?_
  refine Rg.done ?_
  refine Wp.condF rfl ?_
  refine Wp.seq (Wp.region ?_)
  first | refine Rg.tm trivial rfl (t_eqlT rfl rfl (by omega)) rfl ?_ | refine Rg.tm trivial rfl (t_eqlF rfl rfl (by omega)) rfl ?_ | refine Rg.tm trivial rfl (t_eql rfl rfl) rfl ?_
  refine Rg.tm trivial rfl (t_assign rfl) rfl ?_
  refine Rg.done ?_
  refine Wp.condF rfl ?_
  refine Wp.seq (Wp.region ?_)
  first | refine Rg.tm trivial rfl (t_eqlT rfl rfl (by omega)) rfl ?_ | refine Rg.tm trivial rfl (t_eqlF rfl rfl (by omega)) rfl ?_ | refine Rg.tm trivial rfl (t_eql rfl rfl) rfl ?_
  refine Rg.tm trivial rfl (t_assign rfl) rfl ?_
  refine Rg.done ?_
  refine Wp.condF rfl ?_
  refine Wp.seq (Wp.region ?_)
  first | refine Rg.tm trivial rfl (t_eqlT rfl rfl (by omega)) rfl ?_ | refine Rg.tm trivial rfl (t_eqlF rfl rfl (by omega)) rfl ?_ | refine Rg.tm trivial rfl (t_eql rfl rfl) rfl ?_
  refine Rg.tm trivial rfl (t_assign rfl) rfl ?_
  refine Rg.done ?_
  refine Wp.condF rfl ?_
  refine Wp.seq (Wp.region ?_)
  first | refine Rg.tm trivial rfl (t_eqlT rfl rfl (by omega)) rfl ?_ | refine Rg.tm trivial rfl (t_eqlF rfl rfl (by omega)) rfl ?_ | refine Rg.tm trivial rfl (t_eql rfl rfl) rfl ?_
  refine Rg.tm trivial rfl (t_assign rfl) rfl ?_
  refine Rg.done ?_
  refine Wp.condF rfl ?_
  refine Wp.seq (Wp.region ?_)
  first | refine Rg.tm trivial rfl (t_eqlT rfl rfl (by omega)) rfl ?_ | refine Rg.tm trivial rfl (t_eqlF rfl rfl (by omega)) rfl ?_ | refine Rg.tm trivial rfl (t_eql rfl rfl) rfl ?_
  refine Rg.tm trivial rfl (t_assign rfl) rfl ?_
  refine Rg.done ?_
  refine Wp.condT rfl ?_
  refine Wp.seq (Wp.region ?_)
  refine Rg.tm trivial rfl (t_move rfl) rfl ?_
  refine Rg.tm trivial rfl (t_fieldAddr fa29_1 rfl) rfl ?_
  refine Rg.tm trivial rfl (t_load ty3 rfl (Cells.get (i := 1) hc3 rfl)) rfl ?_
  refine Rg.wd trivial (w_call Tryz.call35 rfl (run_ok (h.ext hx) (fun z hz => Nat.lt_of_lt_of_le (hF z hz) hx.le) hf)) rfl ?_
  rintro _ wR ⟨⟨vR,rfl,hrR⟩,hR,hk⟩
  refine Rg.tm trivial rfl (t_extract rfl rfl) rfl ?_
  refine Rg.tm trivial rfl (t_extract rfl rfl) rfl ?_
  refine Rg.tm trivial rfl (t_assign rfl) rfl ?_
  refine Rg.tm trivial rfl (t_assign rfl) rfl ?_
  refine Rg.done ?_
  refine Wp.ret ?_
  exact ⟨[_,_],⟨rfl,rfl,trivial⟩,⟨_,rfl,hrR.mono hx.le⟩,hR,(hx.ks hF).trans hk⟩
 by_cases k7 : kind = 7
 ·have hH : handleS Cx st ⟨kind,n,version,name,text,es,⟨rcl,rid,rq,ra,rn⟩⟩ = evictS st n := by unfold handleS; rw [if_neg k1]; rw [if_neg k2]; rw [if_neg k3]; rw [if_neg k4]; rw [if_neg k5]; rw [if_neg k6]; rw [if_pos k7]
  rw [hH]
  refine Cl.enter Tryz.func17 rfl Tryz.ntmps17 rfl rfl ?_
  refine Wp.seq (Wp.region ?_)
  refine Rg.wd trivial (w_boxed rfl rfl) rfl ?_
  rintro _ w1 ⟨b3,rfl,qb3,hx1,hv3⟩
  replace hx := hx.ext hx1
  have hc3 := hv3.cells
  refine Rg.tm trivial rfl (t_assign rfl) rfl ?_
  refine Rg.tm trivial rfl (t_assign rfl) rfl ?_
  refine Rg.done ?_
  refine Wp.seq ?_
  refine Wp.seq (Wp.region ?_)
  refine Rg.tm trivial rfl (t_fieldAddr fa29_0 rfl) rfl ?_
  refine Rg.tm trivial rfl (t_load ty3 rfl (Cells.get (i := 0) hc3 rfl)) rfl ?_
  refine Rg.done ?_
  refine Wp.block ?_
  refine Wp.seq (Wp.region ?_)
  first | refine Rg.tm trivial rfl (t_eqlT rfl rfl (by omega)) rfl ?_ | refine Rg.tm trivial rfl (t_eqlF rfl rfl (by omega)) rfl ?_ | refine Rg.tm trivial rfl (t_eql rfl rfl) rfl ?_
  refine Rg.tm trivial rfl (t_assign rfl) rfl ?_
  refine Rg.done ?_
  refine Wp.condF rfl ?_
  refine Wp.seq (Wp.region ?_)
  first | refine Rg.tm trivial rfl (t_eqlT rfl rfl (by omega)) rfl ?_ | refine Rg.tm trivial rfl (t_eqlF rfl rfl (by omega)) rfl ?_ | refine Rg.tm trivial rfl (t_eql rfl rfl) rfl ?_
  refine Rg.tm trivial rfl (t_assign rfl) rfl ?_
  refine Rg.done ?_
  refine Wp.condF rfl ?_
  refine Wp.seq (Wp.region ?_)
  first | refine Rg.tm trivial rfl (t_eqlT rfl rfl (by omega)) rfl ?_ | refine Rg.tm trivial rfl (t_eqlF rfl rfl (by omega)) rfl ?_ | refine Rg.tm trivial rfl (t_eql rfl rfl) rfl ?_
  refine Rg.tm trivial rfl (t_assign rfl) rfl ?_
  refine Rg.done ?_
  refine Wp.condF rfl ?_
  refine Wp.seq (Wp.region ?_)
  first | refine Rg.tm trivial rfl (t_eqlT rfl rfl (by omega)) rfl ?_ | refine Rg.tm trivial rfl (t_eqlF rfl rfl (by omega)) rfl ?_ | refine Rg.tm trivial rfl (t_eql rfl rfl) rfl ?_
  refine Rg.tm trivial rfl (t_assign rfl) rfl ?_
  refine Rg.done ?_
  refine Wp.condF rfl ?_
  refine Wp.seq (Wp.region ?_)
  first | refine Rg.tm trivial rfl (t_eqlT rfl rfl (by omega)) rfl ?_ | refine Rg.tm trivial rfl (t_eqlF rfl rfl (by omega)) rfl ?_ | refine Rg.tm trivial rfl (t_eql rfl rfl) rfl ?_
  refine Rg.tm trivial rfl (t_assign rfl) rfl ?_
  refine Rg.done ?_
  refine Wp.condF rfl ?_
  refine Wp.seq (Wp.region ?_)
  first | refine Rg.tm trivial rfl (t_eqlT rfl rfl (by omega)) rfl ?_ | refine Rg.tm trivial rfl (t_eqlF rfl rfl (by omega)) rfl ?_ | refine Rg.tm trivial rfl (t_eql rfl rfl) rfl ?_
  refine Rg.tm trivial rfl (t_assign rfl) rfl ?_
  refine Rg.done ?_
  refine Wp.condF rfl ?_
  refine Wp.seq (Wp.region ?_)
  first | refine Rg.tm trivial rfl (t_eqlT rfl rfl (by omega)) rfl ?_ | refine Rg.tm trivial rfl (t_eqlF rfl rfl (by omega)) rfl ?_ | refine Rg.tm trivial rfl (t_eql rfl rfl) rfl ?_
  refine Rg.tm trivial rfl (t_assign rfl) rfl ?_
  refine Rg.done ?_
  refine Wp.condT rfl ?_
  refine Wp.seq ?_
  refine Wp.seq (Wp.region ?_)
  refine Rg.tm trivial rfl (t_fieldAddr fa29_1 rfl) rfl ?_
  refine Rg.tm trivial rfl (t_load ty3 rfl (Cells.get (i := 1) hc3 rfl)) rfl ?_
  refine Rg.tm trivial rfl (t_lss rfl rfl) rfl ?_
  refine Rg.done ?_
  by_cases hn : n < 0
  ·rw [show decide (n < 0) = true from decide_eq_true hn,show evictS st n = (st,[],1) from if_pos hn]
   refine Wp.condT rfl ?_
   refine Wp.seq (Wp.region ?_)
   refine Rg.tm trivial rfl (t_assign rfl) rfl ?_
   refine Rg.tm trivial rfl (t_assign rfl) rfl ?_
   refine Rg.done ?_
   refine Wp.ret ?_
   exact ⟨[_,_],⟨rfl,rfl,trivial⟩,⟨_,rfl,RsW.nil _ _⟩,⟨_,h.ext hx,rfl⟩,hx.ks hF⟩
  ·rw [show decide (n < 0) = false from decide_eq_false hn,show evictS st n = ({ st with db := { st.db with res := trim st.db.res n } },[],0) from if_neg hn]
   have hfk := hf.clock
   have hcS := (h.var.ext hx).cells
   simp only [SvQ.cells] at hcS
   refine Wp.condF rfl ?_
   refine Wp.skip ?_
   refine Wp.seq (Wp.draw [0,1,2,3,4,5,6] [0] mixed (by kernel_rfl) (by kernel_rfl) ?_)
   intro w2 hx2 _
   replace hx := hx.ext hx2
   replace hc3 := hc3.ext hx2
   replace hcS := hcS.ext hx2
   refine Rg.tm trivial rfl (t_move rfl) rfl ?_
   refine Rg.tm trivial rfl (t_nilCheck rfl) rfl ?_
   refine Rg.tm trivial rfl (t_fieldAddr fa70_4 rfl) rfl ?_
   refine Rg.tm trivial rfl (t_load ty60 rfl (Cells.get (i := 4) hcS rfl)) rfl ?_
   refine Rg.tm trivial rfl (t_fieldAddr fa29_1 rfl) rfl ?_
   refine Rg.tm trivial rfl (t_load ty3 rfl (Cells.get (i := 1) hc3 rfl)) rfl ?_
   refine rg_wdC trivial rfl (w_call Tryz.call36 rfl (evict_ok (h.db.ext hx) (fun z hz => Nat.lt_of_lt_of_le (hF z hz) hx.le) hi (by omega) (h12 k7) ⟨by omega,hmax⟩)) rfl (by rfl) ?_
   rintro _ wR ⟨⟨q',hA',hbD'⟩,kd⟩
   have vk := kd.vk
   have h1 := h.ext hx
   refine Rg.done ?_
   refine Wp.seq (Wp.region ?_)
   refine Rg.tm trivial rfl (t_assign rfl) rfl ?_
   refine Rg.tm trivial rfl (t_assign rfl) rfl ?_
   refine Rg.done ?_
   refine Wp.ret ?_
   exact ⟨[_,_],⟨rfl,rfl,trivial⟩,⟨_,rfl,RsW.nil _ _⟩,⟨⟨s.bS,q',s.vm,s.vv,s.vp⟩,⟨by rw [SvQ.cells,hbD']; exact vk _ _ _ (by decide) h1.var,h1.mods.vk vk (by decide),h1.vers.vk vk (by decide),h1.pend.vk vk (by decide),hA',h1.fS,h1.fp⟩,rfl⟩,(hx.ks hF).trans kd.ks⟩
 have hH : handleS Cx st ⟨kind,n,version,name,text,es,⟨rcl,rid,rq,ra,rn⟩⟩ = (st,[],7) := by unfold handleS; rw [if_neg k1]; rw [if_neg k2]; rw [if_neg k3]; rw [if_neg k4]; rw [if_neg k5]; rw [if_neg k6]; rw [if_neg k7]
 rw [hH]
 refine Cl.enter Tryz.func17 rfl Tryz.ntmps17 rfl rfl ?_
 refine Wp.seq (Wp.region ?_)
 refine Rg.wd trivial (w_boxed rfl rfl) rfl ?_
 rintro _ w1 ⟨b3,rfl,qb3,hx1,hv3⟩
 replace hx := hx.ext hx1
 have hc3 := hv3.cells
 refine Rg.tm trivial rfl (t_assign rfl) rfl ?_
 refine Rg.tm trivial rfl (t_assign rfl) rfl ?_
 refine Rg.done ?_
 refine Wp.seq ?_
 refine Wp.seq (Wp.region ?_)
 refine Rg.tm trivial rfl (t_fieldAddr fa29_0 rfl) rfl ?_
 refine Rg.tm trivial rfl (t_load ty3 rfl (Cells.get (i := 0) hc3 rfl)) rfl ?_
 refine Rg.done ?_
 refine Wp.block ?_
 refine Wp.seq (Wp.region ?_)
 first | refine Rg.tm trivial rfl (t_eqlT rfl rfl (by omega)) rfl ?_ | refine Rg.tm trivial rfl (t_eqlF rfl rfl (by omega)) rfl ?_ | refine Rg.tm trivial rfl (t_eql rfl rfl) rfl ?_
 refine Rg.tm trivial rfl (t_assign rfl) rfl ?_
 refine Rg.done ?_
 refine Wp.condF rfl ?_
 refine Wp.seq (Wp.region ?_)
 first | refine Rg.tm trivial rfl (t_eqlT rfl rfl (by omega)) rfl ?_ | refine Rg.tm trivial rfl (t_eqlF rfl rfl (by omega)) rfl ?_ | refine Rg.tm trivial rfl (t_eql rfl rfl) rfl ?_
 refine Rg.tm trivial rfl (t_assign rfl) rfl ?_
 refine Rg.done ?_
 refine Wp.condF rfl ?_
 refine Wp.seq (Wp.region ?_)
 first | refine Rg.tm trivial rfl (t_eqlT rfl rfl (by omega)) rfl ?_ | refine Rg.tm trivial rfl (t_eqlF rfl rfl (by omega)) rfl ?_ | refine Rg.tm trivial rfl (t_eql rfl rfl) rfl ?_
 refine Rg.tm trivial rfl (t_assign rfl) rfl ?_
 refine Rg.done ?_
 refine Wp.condF rfl ?_
 refine Wp.seq (Wp.region ?_)
 first | refine Rg.tm trivial rfl (t_eqlT rfl rfl (by omega)) rfl ?_ | refine Rg.tm trivial rfl (t_eqlF rfl rfl (by omega)) rfl ?_ | refine Rg.tm trivial rfl (t_eql rfl rfl) rfl ?_
 refine Rg.tm trivial rfl (t_assign rfl) rfl ?_
 refine Rg.done ?_
 refine Wp.condF rfl ?_
 refine Wp.seq (Wp.region ?_)
 first | refine Rg.tm trivial rfl (t_eqlT rfl rfl (by omega)) rfl ?_ | refine Rg.tm trivial rfl (t_eqlF rfl rfl (by omega)) rfl ?_ | refine Rg.tm trivial rfl (t_eql rfl rfl) rfl ?_
 refine Rg.tm trivial rfl (t_assign rfl) rfl ?_
 refine Rg.done ?_
 refine Wp.condF rfl ?_
 refine Wp.seq (Wp.region ?_)
 first | refine Rg.tm trivial rfl (t_eqlT rfl rfl (by omega)) rfl ?_ | refine Rg.tm trivial rfl (t_eqlF rfl rfl (by omega)) rfl ?_ | refine Rg.tm trivial rfl (t_eql rfl rfl) rfl ?_
 refine Rg.tm trivial rfl (t_assign rfl) rfl ?_
 refine Rg.done ?_
 refine Wp.condF rfl ?_
 refine Wp.seq (Wp.region ?_)
 first | refine Rg.tm trivial rfl (t_eqlT rfl rfl (by omega)) rfl ?_ | refine Rg.tm trivial rfl (t_eqlF rfl rfl (by omega)) rfl ?_ | refine Rg.tm trivial rfl (t_eql rfl rfl) rfl ?_
 refine Rg.tm trivial rfl (t_assign rfl) rfl ?_
 refine Rg.done ?_
 refine Wp.condF rfl ?_
 refine Wp.skip ?_
 refine Wp.seq (Wp.region ?_)
 refine Rg.tm trivial rfl (t_assign rfl) rfl ?_
 refine Rg.tm trivial rfl (t_assign rfl) rfl ?_
 refine Rg.done ?_
 refine Wp.ret ?_
 exact ⟨[_,_],⟨rfl,rfl,trivial⟩,⟨_,rfl,RsW.nil _ _⟩,⟨_,h.ext hx,rfl⟩,hx.ks hF⟩
theorem modules_ok {F : Fs} {w : World} {s : SvQ} {st : St} (h : SvW F w s st) (hl : st.mods.length ≤ 1000) :
  Cl Tryz.prog 19 #[.pointer (some ⟨s.bS,0,none⟩)] w (fun u w' => w'.ownsRow w.heap.size 52 2 u st.mods.length (encs mc st.mods) ∧ Ext w w') := by
 have hx := Ext.refl w
 have hcS := h.var.cells
 simp only [SvQ.cells] at hcS
 refine Cl.enter Tryz.func19 rfl Tryz.ntmps19 rfl rfl ?_
 refine Wp.seq (Wp.region ?_)
 refine Rg.tm trivial rfl (t_assign rfl) rfl ?_
 refine Rg.done ?_
 refine Wp.seq (Wp.region ?_)
 refine Rg.tm trivial rfl (t_move rfl) rfl ?_
 refine Rg.tm trivial rfl (t_nilCheck rfl) rfl ?_
 refine Rg.tm trivial rfl (t_fieldAddr fa70_0 rfl) rfl ?_
 refine Rg.tm trivial rfl (t_load ty49 rfl (by apply Cells.get (i := 0); (case h => assumption); rfl)) rfl ?_
 refine Rg.wd trivial (w_call Tryz.call37 rfl (cloneMods_ok h.mods.slc (encs_one mc_one _) hl)) rfl ?_
 rintro v7 w1 ⟨ho,hx1⟩
 replace hx := hx.ext hx1
 refine Rg.tm trivial rfl (t_assign rfl) rfl ?_
 refine Rg.done ?_
 refine Wp.ret ?_
 exact ⟨[_],⟨rfl,trivial⟩,ho,hx⟩
theorem pending_ok {F : Fs} {w : World} {s : SvQ} {st : St} (h : SvW F w s st) (hl : st.pend.length ≤ 1000) :
  Cl Tryz.prog 15 #[.pointer (some ⟨s.bS,0,none⟩)] w (fun u w' => w'.ownsRow w.heap.size 27 5 u st.pend.length (encs rc st.pend) ∧ Ext w w') := by
 have hx := Ext.refl w
 have hcS := h.var.cells
 simp only [SvQ.cells] at hcS
 refine Cl.enter Tryz.func15 rfl Tryz.ntmps15 rfl rfl ?_
 refine Wp.seq (Wp.region ?_)
 refine Rg.tm trivial rfl (t_assign rfl) rfl ?_
 refine Rg.done ?_
 refine Wp.seq (Wp.region ?_)
 refine Rg.tm trivial rfl (t_move rfl) rfl ?_
 refine Rg.tm trivial rfl (t_nilCheck rfl) rfl ?_
 refine Rg.tm trivial rfl (t_fieldAddr fa70_2 rfl) rfl ?_
 refine Rg.tm trivial rfl (t_load ty38 rfl (by apply Cells.get (i := 2); (case h => assumption); rfl)) rfl ?_
 refine Rg.wd trivial (w_call Tryz.call29 rfl (cloneReqs_ok h.pend.slc (encs_one rc_one _) hl)) rfl ?_
 rintro v7 w1 ⟨ho,hx1⟩
 replace hx := hx.ext hx1
 refine Rg.tm trivial rfl (t_assign rfl) rfl ?_
 refine Rg.done ?_
 refine Wp.ret ?_
 exact ⟨[_],⟨rfl,trivial⟩,ho,hx⟩
theorem version_ok {F : Fs} {w : World} {s : SvQ} {st : St} {name : BA} (h : SvW F w s st) (hf : Fine st) (hi : ¬ idxM st.mods name < 0) :
  Cl Tryz.prog 22 #[.pointer (some ⟨s.bS,0,none⟩),.string name] w (fun u w' => u = .tuple #[.int .i64 (st.vers.getD (idxM st.mods name).toNat 0),.int .i64 0] ∧ Ext w w') := by
 have hx := Ext.refl w
 have hcS := h.var.cells
 simp only [SvQ.cells] at hcS
 have hS := h.var
 simp only [SvQ.cells] at hS
 have hml := hf.mlen
 have hvl := hf.vlen
 have hvs := h.vers.slc
 obtain ⟨ix,eix,hix⟩ := idxF_lt hi
 rw [Nat.zero_add] at eix
 change idxM st.mods name = (ix : Int) at eix
 have hixv : ix < st.vers.length := by omega
 have hgd : st.vers.getD ix 0 = st.vers[ix] := by simp [List.getD,List.getElem?_eq_getElem hixv]
 rw [eix,Int.toNat_natCast,hgd]
 refine Cl.enter Tryz.func22 rfl Tryz.ntmps22 rfl rfl ?_
 refine Wp.seq (Wp.region ?_)
 refine Rg.tm trivial rfl (t_assign rfl) rfl ?_
 refine Rg.tm trivial rfl (t_assign rfl) rfl ?_
 refine Rg.done ?_
 refine Wp.seq (Wp.region ?_)
 refine Rg.tm trivial rfl (t_move rfl) rfl ?_
 refine Rg.tm trivial rfl (t_move rfl) rfl ?_
 refine Rg.wd trivial (w_call Tryz.call38 rfl (index_ok hS h.mods (by omega))) rfl ?_
 rintro _ w1 ⟨rfl,hx1⟩
 replace hx := hx.ext hx1
 replace hcS := hcS.ext hx1
 replace hvs := hvs.ext hx1
 rw [eix]
 refine Rg.tm trivial rfl (t_assign rfl) rfl ?_
 refine Rg.done ?_
 refine Wp.seq ?_
 refine Wp.seq (Wp.region ?_)
 refine Rg.tm trivial rfl (t_move rfl) rfl ?_
 first | refine Rg.tm trivial rfl (t_lssT rfl rfl (by omega)) rfl ?_ | refine Rg.tm trivial rfl (t_lssF rfl rfl (by omega)) rfl ?_ | refine Rg.tm trivial rfl (t_lss rfl rfl) rfl ?_
 refine Rg.done ?_
 refine Wp.condF rfl ?_
 refine Wp.skip ?_
 refine Wp.seq (Wp.region ?_)
 refine Rg.tm trivial rfl (t_move rfl) rfl ?_
 refine Rg.tm trivial rfl (t_nilCheck rfl) rfl ?_
 refine Rg.tm trivial rfl (t_fieldAddr fa70_1 rfl) rfl ?_
 refine Rg.tm trivial rfl (t_load ty41 rfl (by apply Cells.get (i := 1); (case h => assumption); rfl)) rfl ?_
 refine Rg.tm trivial rfl (t_move rfl) rfl ?_
 refine Rg.ix hvs trivial rfl rfl Tryz.underlying41 ty3 (by omega) rfl ?_
 intro bt17 ot17 ht17
 rw [Int.toNat_natCast,encs_at ei_len st.vers ix hixv] at ht17
 simp only [ei] at ht17
 refine Rg.tm trivial rfl (t_load ty3 rfl (by first | assumption | (apply Cells.get (i := 0); (case h => assumption); rfl))) rfl ?_
 refine Rg.tm trivial rfl (t_assign rfl) rfl ?_
 refine Rg.tm trivial rfl (t_assign rfl) rfl ?_
 refine Rg.done ?_
 refine Wp.ret ?_
 exact ⟨[_,_],⟨rfl,rfl,trivial⟩,rfl,hx⟩
theorem memoNew_ok {w : World} {bF : Nat} (hF : Var w bF [.func (.func 13) #[] #[]] 35) :
  Cl Tryz.prog 25 #[.func (.func 26) #[] #[.pointer (some ⟨bF,0,none⟩)]] w (fun u w' => (∃ q,u = .pointer (some ⟨q.bD,0,none⟩) ∧ DbW w' q ∧ q.ins = ⟨0,[]⟩ ∧ q.rs = [] ∧ q.comps = 0 ∧ q.clock = 0 ∧ q.act = [] ∧ q.stop = .nilFunc ∧ w.heap.size ≤ q.bD ∧ w.heap.size ≤ q.bI ∧ w.heap.size ≤ q.bM ∧ w.heap.size ≤ q.bR ∧ w.heap.size ≤ q.bA) ∧ Ext w w') := by
 have hx := Ext.refl w
 have hb87 : ∀ (f : Value) (i : Option Addr) (r a : Option Nat) (hf : f = .func (.func 26) #[] #[.pointer (some ⟨bF,0,none⟩)]) (w : World),(Instr.build 87 [(0,f),(1,.pointer i),(2,.map r),(3,.map a)].toArray).run Tryz.prog w = .ok (.agg #[f,.pointer i,.map r,.map a,.nilFunc,.int .i64 0,.int .i64 0]) w := by
  intro f i r a hf w
  subst hf
  kernel_rfl
 refine Cl.enter Tryz.func25 rfl Tryz.ntmps25 rfl rfl ?_
 refine Wp.seq (Wp.region ?_)
 refine Rg.tm trivial rfl (t_assign rfl) rfl ?_
 refine Rg.done ?_
 refine Wp.seq ?_
 refine Wp.seq (Wp.region ?_)
 refine Rg.tm trivial rfl (t_move rfl) rfl ?_
 refine Rg.tm trivial rfl (t_fnNilF Tryz.underlying68 rfl rfl) rfl ?_
 refine Rg.done ?_
 refine Wp.condF rfl ?_
 refine Wp.skip ?_
 refine Wp.seq (Wp.region ?_)
 refine Rg.tm trivial rfl (t_move rfl) rfl ?_
 refine Rg.wd trivial (w_call Tryz.call40 rfl (inputsNew_ok)) rfl ?_
 rintro _ w1 ⟨⟨bI,bM,rfl,kI,kM,hIM,hI⟩,hx1⟩
 replace hx := hx.ext hx1
 replace hF := hF.ext hx1
 refine Rg.wd trivial (w_makeMap3) rfl ?_
 rintro _ w2 ⟨bR,rfl,qR,hx2,hR⟩
 have kR := hx.le
 have hMl : bM < w1.heap.size := by obtain ⟨_,l,hm,_⟩ := hI; exact hm.lt
 replace hx := hx.ext hx2
 replace hF := hF.ext hx2
 replace hI := hI.ext hx2
 refine Rg.wd trivial (w_makeMap3) rfl ?_
 rintro _ w3 ⟨bA,rfl,qA,hx3,hA⟩
 have kA := hx.le
 have hRl := hR.lt
 have hle2 := hx2.le
 replace hx := hx.ext hx3
 replace hF := hF.ext hx3
 replace hI := hI.ext hx3
 replace hR := hR.ext hx3
 refine Rg.tm trivial rfl (t_build (hb87 _ _ _ _ rfl) rfl) rfl ?_
 refine Rg.wd trivial (w_boxed rfl rfl) rfl ?_
 rintro _ w4 ⟨bD,rfl,qD,hx4,hD⟩
 have kD := hx.le
 replace hx := hx.ext hx4
 replace hF := hF.ext hx4
 replace hI := hI.ext hx4
 replace hR := hR.ext hx4
 replace hA := hA.ext hx4
 refine Rg.tm trivial rfl (t_assign rfl) rfl ?_
 refine Rg.done ?_
 refine Wp.ret ?_
 exact ⟨[_],⟨rfl,trivial⟩,⟨⟨bD,bI,bM,bR,bA,bF,⟨0,[]⟩,[],.nilFunc,[],0,0⟩,rfl,⟨hD,hF,hI,hR,hA,fun p hp => (by cases hp),(by simp),by show bM ≠ bR; omega,by show bM ≠ bA; omega,by show bR ≠ bA; omega⟩,rfl,rfl,rfl,rfl,rfl,rfl,by show _ ≤ bD; omega,kI,kM,by show _ ≤ bR; omega,by show _ ≤ bA; omega⟩,hx⟩
theorem new_ok {F : Fs} {w : World} (hF : Und F w.heap.size) : Cl Tryz.prog 12 #[.func (.func 13) #[] #[]] w (fun u w' => (∃ s,u = .pointer (some ⟨s.bS,0,none⟩) ∧ SvW F w' s new0) ∧ Ext w w') := by
 have hx := Ext.refl w
 have hz : ∀ z,w.heap.size ≤ z → ¬ F z := fun z h hf => by have := hF z hf; omega
 refine Cl.enter Tryz.func12 rfl Tryz.ntmps12 rfl rfl ?_
 refine Wp.seq (Wp.region ?_)
 refine Rg.wd trivial (w_boxed rfl rfl) rfl ?_
 rintro _ w1 ⟨b1,rfl,qb1,hx1,hv1⟩
 replace hx := hx.ext hx1
 have hc1 := hv1.cells
 refine Rg.tm trivial rfl (t_assign rfl) rfl ?_
 refine Rg.done ?_
 refine Wp.seq ?_
 refine Wp.seq (Wp.region ?_)
 refine Rg.tm trivial rfl (t_load ty35 rfl (Cells.get (i := 0) hc1 rfl)) rfl ?_
 refine Rg.tm trivial rfl (t_fnNilF Tryz.underlying35 rfl rfl) rfl ?_
 refine Rg.done ?_
 refine Wp.condF rfl ?_
 refine Wp.skip ?_
 refine Wp.seq (Wp.region ?_)
 refine Rg.tm trivial rfl (t_makeFunc (vs := [_]) rfl) rfl ?_
 refine Rg.wd trivial (w_call Tryz.call25 rfl (memoNew_ok hv1)) rfl ?_
 rintro _ w2 ⟨⟨q,rfl,hD,e1,e2,e3,e4,e5,e6,k1,k2,k3,k4,k5⟩,hx2⟩
 have hle := hx.le
 replace hx := hx.ext hx2
 refine Rg.tm trivial rfl (t_build (bd70_4 _) rfl) rfl ?_
 refine Rg.wd trivial (w_boxed rfl rfl) rfl ?_
 rintro _ w3 ⟨bS,rfl,qS,hx3,hvS⟩
 have kS := hx.le
 replace hx := hx.ext hx3
 replace hD := hD.ext hx3
 refine Rg.tm trivial rfl (t_assign rfl) rfl ?_
 refine Rg.done ?_
 refine Wp.ret ?_
 refine ⟨[_],⟨rfl,trivial⟩,⟨⟨bS,q,.slice none 0 0,.slice none 0 0,.slice none 0 0⟩,rfl,⟨hvS,Row.nil _ _ _,Row.nil _ _ _,Row.nil _ _ _,⟨hD,⟨hz q.bD (by omega),hz q.bI (by omega),hz q.bM (by omega),hz q.bR (by omega),hz q.bA (by omega),fun x hx => by rw [e2] at hx; cases hx⟩,⟨e1,by rw [e2]; rfl,e3,e4⟩,e5,e6⟩,hz _ (by show _ ≤ bS; omega),fun b hb => by cases hb⟩⟩,hx⟩
end Go.Proofs.YtliofpegbcegiaaGreatDoor
namespace Go.Proofs.YtliofpegbcegiaaGreatDoor
set_option maxRecDepth 20000
open Go.Gx Go.RowKit Go.Lib
open Lexi (Asc)
def evp (p : Ev TE × Value) : List Value := evc p.1 p.2
theorem evp_len (p : Ev TE × Value) : (evp p).length = 11 := rfl
structure EvOk (w : World) (p : Ev TE × Value) : Prop where
 edits : SlC w p.2 3 p.1.edits.length (tes p.1.edits)
 few : p.1.edits.length < 4611686018427387904
 short : ∀ x ∈ p.1.edits,(x.s.size : Int) ≤ 140737488355328
 max : p.1.n ≤ 9223372036854775807
theorem EvOk.ext {w w' : World} {p : Ev TE × Value} (h : EvOk w p) (k : Ext w w') : EvOk w' p := ⟨h.edits.ext k,h.few,h.short,h.max⟩
theorem EvOk.one {w : World} {p : Ev TE × Value} (h : EvOk w p) : ∀ u ∈ evp p,u.oneCell' = true := fun u hu => by
 obtain ⟨_,pe,ce,e,_⟩ := h.edits
 simp only [evp,evc,List.mem_cons,List.not_mem_nil,or_false,e] at hu
 rcases hu with rfl | rfl | rfl | rfl | rfl | rfl | rfl | rfl | rfl | rfl | rfl <;> rfl
theorem play_snoc : ∀ (l : List (Ev TE)) (e : Ev TE) (st : St),playS Cx st (l ++ [e]) = ((handleS Cx (playS Cx st l).1 e).1,(playS Cx st l).2 ++ (handleS Cx (playS Cx st l).1 e).2.1)
 | [],e,st => by simp [playS]
 | a :: l,e,st => by
  rw [List.cons_append]
  simp only [playS]
  rw [play_snoc l e]
  simp [List.append_assoc]
theorem Ks.ext0 {F : Fs} {w0 w w' : World} (k : Ks F w w') (h : Ext w0 w) (hF : ∀ z,z < w0.heap.size → F z) : Ext w0 w' :=
 ⟨k.base.os.trans h.os,k.base.tape.trans h.tape,k.base.output.trans h.output,Nat.le_trans h.le k.le,fun i hi => (k.base.block i (hF i hi)).trans (h.block i hi)⟩
def Early (k : Nat) (l : List (Ev TE × Value)) : Prop := (∀ p ∈ l,p.1.kind ≠ 7) ∨ k + l.length ≤ 15
theorem Good.few {k : Nat} {st : St} (h : Good k st) (hk : k ≤ 14) : st.db.res.length ≤ 12 := by
 rcases h.p3 with e | e
 ·rw [e]; simp
 ·omega
theorem play_ok {F : Fs} {w0 w : World} {s : SvQ} {st : St} {l : List (Ev TE × Value)} {v : Value} {k : Nat} (h : SvW F w s st) (hF : Und F w.heap.size) (hx0 : Ext w0 w) (hF0 : ∀ z,z < w0.heap.size → F z) (hA : Asc w0) (hG : Good k st) (hk : k + l.length ≤ 900) (hl : l.length ≤ 100)
  (hv : Row w 29 11 v l.length (encs evp l)) (hE : ∀ p ∈ l,EvOk w0 p) (hev : Early k l) (hrs : (playS Cx st (l.map (·.1))).2.length ≤ 1000) :
  Cl Tryz.prog 11 #[.pointer (some ⟨s.bS,0,none⟩),v] w (fun u w' => RsW w.heap.size w' u (playS Cx st (l.map (·.1))).2 ∧ (∃ s',SvW F w' s' (playS Cx st (l.map (·.1))).1 ∧ s'.bS = s.bS) ∧ Ks F w w') := by
 have hx := Ext.refl w
 obtain ⟨bS,q,vm,vv,vp⟩ := s
 simp only at ⊢
 obtain ⟨i43,hi43,hz43,hsi43,hby43⟩ := inf43
 have hvs0 := hv.slc
 refine Cl.enter Tryz.func11 rfl Tryz.ntmps11 rfl rfl ?_
 refine Wp.seq (Wp.region ?_)
 refine Rg.tm trivial rfl (t_assign rfl) rfl ?_
 refine Rg.done ?_
 refine Wp.seq (Wp.region ?_)
 refine Rg.tm trivial rfl (t_assign rfl) rfl ?_
 refine Rg.done ?_
 refine Wp.seq ?_
 refine Wp.seq (Wp.region ?_)
 refine Rg.tm trivial rfl (t_move rfl) rfl ?_
 refine Rg.tm trivial rfl (t_lenC hvs0 Tryz.underlying22 rfl) rfl ?_
 refine Rg.tm trivial rfl (t_move rfl) rfl ?_
 refine Rg.done ?_
 refine Wp.block ?_
 refine Wp.loop (ι := Value × Nat) (fun i => [(0,.pointer (some ⟨bS,0,none⟩)),(5,i.1),(10,v),(11,.int .i64 l.length),(12,.int .i64 i.2)])
  (fun i w' => i.2 ≤ l.length ∧ RsW w.heap.size w' i.1 (playS Cx st ((l.take i.2).map (·.1))).2 ∧ (∃ s',SvW F w' s' (playS Cx st ((l.take i.2).map (·.1))).1 ∧ s'.bS = bS) ∧ Row w' 29 11 v l.length (encs evp l) ∧ Ks F w w') (fun i => l.length - i.2) (.slice none 0 0,0) (by repeat (first | exact .nil | refine .cons rfl ?_)) ⟨Nat.zero_le _,RsW.nil _ _,⟨_,h.ext hx,rfl⟩,hv.ext hx,hx.ks hF⟩ ?_
 clear hx
 rintro ⟨v5,i⟩ w3 ⟨hil,hrw,⟨s',hsv,hbs⟩,hv,ks⟩
 obtain ⟨bS',q3,vm3,vv3,vp3⟩ := s'
 simp only at hbs hil hrw hsv ⊢
 subst hbs
 have hvs := hv.slc
 have hx := Ext.refl w3
 by_cases hlt : i < l.length
 ·have hmem := List.getElem_mem hlt
  obtain ⟨p,hp⟩ : ∃ p,l[i] = p := ⟨_,rfl⟩
  rw [hp] at hmem
  have hsn : (l.take (i + 1)).map (·.1) = (l.take i).map (·.1) ++ [p.1] := by rw [List.take_succ_eq_append_getElem hlt,List.map_append,hp]; rfl
  have hps := play_snoc ((l.take i).map (·.1)) p.1 st
  rw [← hsn] at hps
  have hGi : Good (k + i) (playS Cx st ((l.take i).map (·.1))).1 := by
   have := hG.play (l := (l.take i).map (·.1))
   rw [List.length_map,List.length_take,Nat.min_eq_left hil] at this
   exact this
  have hpre : (playS Cx st ((l.take (i + 1)).map (·.1))).2.length ≤ 1000 := by
   have happ : ∀ (a b : List (Ev TE)) (st : St),(playS Cx st a).2.length ≤ (playS Cx st (a ++ b)).2.length := by
    intro a
    induction a with
    | nil => intro b st; simp [playS]
    | cons e a ih => intro b st; simp only [List.cons_append,playS,List.length_append]; have := ih b (handleS Cx st e).1; omega
   have := happ ((l.take (i + 1)).map (·.1)) ((l.drop (i + 1)).map (·.1)) st
   rw [← List.map_append,List.take_append_drop] at this
   omega
  obtain ⟨sti,hsti⟩ : ∃ x,(playS Cx st ((l.take i).map (·.1))).1 = x := ⟨_,rfl⟩
  obtain ⟨rsi,hrsi⟩ : ∃ x,(playS Cx st ((l.take i).map (·.1))).2 = x := ⟨_,rfl⟩
  rw [hsti] at hsv hps hGi
  rw [hrsi] at hrw hps
  rw [hps] at hpre
  have hf := hGi.fine (by omega)
  have h12 : p.1.kind = 7 → sti.db.res.length ≤ 12 := fun e7 => by
   rcases hev with h | h
   ·exact absurd e7 (h p hmem)
   ·exact hGi.few (by omega)
  have hEp := hE p hmem
  obtain ⟨_,pe,ce,epe,_⟩ := id hEp.edits
  refine Wp.seq (Wp.region ?_)
  first | refine Rg.tm trivial rfl (t_lssT rfl rfl (by omega)) rfl ?_ | refine Rg.tm trivial rfl (t_lssF rfl rfl (by omega)) rfl ?_ | refine Rg.tm trivial rfl (t_lss rfl rfl) rfl ?_
  refine Rg.done ?_
  refine Wp.seq ?_
  refine Wp.condT rfl ?_
  refine Wp.skip ?_
  refine Wp.seq ?_
  refine Wp.block ?_
  refine Wp.seq (Wp.region ?_)
  refine Rg.ix hvs trivial rfl rfl Tryz.underlying22 ty29 (by omega) rfl ?_
  intro bt14 ot14 ht14
  rw [Int.toNat_natCast,encs_at evp_len l i hlt,hp] at ht14
  simp only [evp,evc,epe] at ht14
  refine Rg.tm trivial rfl (t_loadA rfl ht14 ty29) rfl ?_
  refine Rg.wd trivial (w_new Tryz.zeroValue29 rfl) rfl ?_
  rintro _ wa ⟨b7,rfl,qb7,hxa,hva⟩
  refine Rg.wn trivial (w_put hva rfl rfl rfl ty29 rfl rfl) ?_
  rintro _ w1 ⟨hu,hv7⟩
  have hx1 := hxa.upd hu (Nat.le_of_eq qb7.symm)
  replace hx := hx.ext hx1
  replace hvs := hvs.ext hx1
  replace ht14 := ht14.ext hx1
  have hc7 := hv7.cells
  clear hva hu
  refine Rg.done ?_
  refine Wp.seq (Wp.region ?_)
  refine Rg.tm trivial rfl (t_move rfl) rfl ?_
  refine Rg.tm trivial rfl (t_loadA rfl hc7 ty29) rfl ?_
  refine Rg.wd trivial (w_call Tryz.call17 rfl (handle_ok (s := ⟨bS',q3,vm3,vv3,vp3⟩) (e := p.1) (ve := .slice pe p.1.edits.length ce) (hsv.ext hx) (ks.ext hx).le' (hA.ext (Ks.ext0 (ks.ext hx) hx0 hF0)) hf hGi.dbi (by have h9 := (hEp.ext (Ks.ext0 (ks.ext hx) hx0 hF0)).edits; rw [epe] at h9; exact h9) hEp.few hEp.short h12 hEp.max)) rfl ?_
  rintro _ wH ⟨⟨v8,rfl,hr8⟩,⟨s2,hsv2,hbs2⟩,ksH⟩
  have ks3 := (ks.ext hx).trans ksH
  have hxw3 := hx
  have hvH := (hv.ext hx).vk ksH.var (by decide)
  have hrH := (hrw.ext hx).vk ksH.var (by decide) (by decide)
  replace hr8 := hr8.mono (Nat.le_trans ks.le hx.le)
  clear hv hrw hx hsv ks ksH
  refine Rg.tm trivial rfl (t_move rfl) rfl ?_
  refine Rg.tm trivial rfl (t_extract rfl rfl) rfl ?_
  refine Rg.tm trivial rfl (t_extract rfl rfl) rfl ?_
  refine Rg.tm trivial rfl (t_assign rfl) rfl ?_
  refine Rg.tm trivial rfl (t_assign rfl) rfl ?_
  refine Rg.done ?_
  refine Wp.region ?_
  refine Rg.tm trivial rfl (t_move rfl) rfl ?_
  refine Rg.tm trivial rfl (t_move rfl) rfl ?_
  obtain ⟨psA,epA,hoA,hnA⟩ := hrH
  obtain ⟨psB,epB,hoB,hnB⟩ := hr8
  have hsB := own_slice hoB
  have hlAB : psA.length + psB.length ≤ 1000 := by
   have h1 := congrArg List.length epA
   have h2 := congrArg List.length epB
   rw [List.length_map] at h1 h2
   rw [List.length_append] at hpre
   omega
  refine Rg.wd trivial (w_appendC w.heap.size Tryz.underlying31 hi43 hz43 hsi43 hby43 rfl (by decide) rfl rfl hoA hsB (NumsW.one hnB) (by unfold maxLen; omega) (by omega) ks3.le) rfl ?_
  rintro v24 wG ⟨ho2,hgr,_⟩
  have vkg := grown_vk hoA hgr
  have hko := grown_ko hoA hgr ks3.le
  have ks6 := ks3.ko hko
  obtain ⟨a1,a2,a3,a4,a5,a6,a7⟩ := hsv2
  have hA6 := a5.grown hoA hgr (by decide)
  have hS6 : SvW F wG s2 (handleS Cx sti p.1).1 := ⟨vkg _ _ _ (by decide) a1,a2.vk vkg (by decide),a3.vk vkg (by decide),a4.vk vkg (by decide),hA6,a6,a7⟩
  have hv6 := hvH.vk vkg (by decide)
  have hr6 : RsW w.heap.size wG v24 (rsi ++ (handleS Cx sti p.1).2.1) := ⟨psA ++ psB,by rw [List.map_append,epA,epB],by rw [List.length_append,encs_append]; exact ho2,fun p hp => by
   rcases List.mem_append.1 hp with hp | hp
   ·exact Row.vk (hnA p hp) vkg (by decide)
   ·exact Row.vk (hnB p hp) vkg (by decide)⟩
  refine Rg.tm trivial rfl (t_assign rfl) rfl ?_
  refine Rg.done ?_
  refine Wp.region ?_
  first | refine Rg.tm trivial rfl (t_addI rfl rfl (by omega)) rfl ?_ | refine Rg.tm trivial rfl (t_add rfl rfl) rfl ?_
  refine Rg.tm trivial rfl (t_move rfl) rfl ?_
  refine Rg.done ?_
  exact ⟨(v24,i + 1),by repeat (first | exact .nil | refine .cons rfl ?_),⟨hlt,by rw [hps]; exact hr6,⟨s2,by rw [hps]; exact hS6,hbs2⟩,hv6,ks6⟩,by simp only; omega⟩
 ·obtain rfl : i = l.length := by omega
  rw [List.take_length] at hrw hsv
  refine Wp.seq (Wp.region ?_)
  first | refine Rg.tm trivial rfl (t_lssT rfl rfl (by omega)) rfl ?_ | refine Rg.tm trivial rfl (t_lssF rfl rfl (by omega)) rfl ?_ | refine Rg.tm trivial rfl (t_lss rfl rfl) rfl ?_
  refine Rg.done ?_
  refine Wp.seq ?_
  refine Wp.condF rfl ?_
  refine Wp.exit ?_
  refine Wp.seq (Wp.region ?_)
  refine Rg.tm trivial rfl (t_move rfl) rfl ?_
  refine Rg.tm trivial rfl (t_assign rfl) rfl ?_
  refine Rg.done ?_
  refine Wp.ret ?_
  exact ⟨[_],⟨rfl,trivial⟩,hrw,⟨_,hsv,rfl⟩,ks⟩
end Go.Proofs.YtliofpegbcegiaaGreatDoor
namespace Go.Proofs.YtliofpegbcegiaaGreatDoor
set_option maxRecDepth 20000
open Go.Gx Go.RowKit Go.Lib
open Lexi (Asc)
def shortR (r : Rq) : Rq := if r.query = 8 ∧ 300 < r.arg then { r with arg := 300 } else r
def shortE (e : Ev TE) : Ev TE := { e with text := e.text.extract 0 (min e.text.size 150),req := shortR e.req }
def shortP (p : Ev TE × Value) : Ev TE × Value := (shortE p.1,p.2)
theorem EvOk.shortP {w : World} {p : Ev TE × Value} (h : EvOk w p) : EvOk w (shortP p) := ⟨h.edits,h.few,h.short,h.max⟩
theorem shortEvents_ok {w : World} {l : List (Ev TE × Value)} {v : Value} {n : Nat} (hs0 : SlC w v 11 l.length (encs evp l)) (hE : ∀ p ∈ l,EvOk w p) (hl : l.length ≤ 9223372036854775807) (hn : n ≤ 20) :
  Cl Tryz.prog 9 #[v,.int .i64 n] w (fun u w' => w'.ownsRow w.heap.size 29 11 u (l.take n).length (encs evp ((l.take n).map shortP)) ∧ Ext w w') := by
 have hx := Ext.refl w
 obtain ⟨i29,hi29,hz29,hsi29,hby29⟩ := inf29
 have hlt_ : (l.take n).length = min n l.length := List.length_take
 refine Cl.enter Tryz.func9 rfl Tryz.ntmps9 rfl rfl ?_
 refine Wp.seq (Wp.region ?_)
 refine Rg.tm trivial rfl (t_assign rfl) rfl ?_
 refine Rg.done ?_
 refine Wp.seq (Wp.region ?_)
 refine Rg.tm trivial rfl (t_assign rfl) rfl ?_
 refine Rg.done ?_
 refine Wp.seq ?_
 refine Wp.seq (Wp.region ?_)
 refine Rg.tm trivial rfl (t_move rfl) rfl ?_
 refine Rg.tm trivial rfl (t_move rfl) rfl ?_
 refine Rg.tm trivial rfl (t_lenC hs0 Tryz.underlying22 rfl) rfl ?_
 refine Rg.tm trivial rfl (t_move rfl) rfl ?_
 refine Rg.tm trivial rfl (t_minI rfl rfl) rfl ?_
 refine Rg.sl hs0 trivial rfl Tryz.underlying22 ty29 rfl rfl (by omega) rfl ?_
 intro vt13 ht130
 have hs13 : SlC w vt13 11 (l.take n).length (encs evp (l.take n)) := by
  have h9 := ht130
  rw [show (min (l.length : Int) (n : Int)).toNat = min n l.length from by omega] at h9
  rw [hlt_,List.take_eq_take_min,← encs_take evp_len]
  simpa using h9
 refine Rg.tm trivial rfl (t_lenC hs13 Tryz.underlying22 rfl) rfl ?_
 refine Rg.tm trivial rfl (t_move rfl) rfl ?_
 refine Rg.done ?_
 refine Wp.block ?_
 clear ht130
 obtain ⟨es,hes⟩ : ∃ es,l.take n = es := ⟨_,rfl⟩
 rw [hes] at hs13 hlt_ ⊢
 have hE' : ∀ p ∈ es,EvOk w p := fun p hp => hE p (by rw [← hes] at hp; exact List.mem_of_mem_take hp)
 have hn20 : es.length ≤ 20 := by omega
 refine Wp.loop (ι := Value × Nat) (fun i => [(5,i.1),(13,vt13),(14,.int .i64 es.length),(15,.int .i64 i.2)])
  (fun i w' => i.2 ≤ es.length ∧ w'.ownsRow w.heap.size 29 11 i.1 i.2 (encs evp ((es.take i.2).map shortP)) ∧ Ext w w') (fun i => es.length - i.2) (.slice none 0 0,0) (by repeat (first | exact .nil | refine .cons rfl ?_)) ⟨Nat.zero_le _,own_nil _ _ _ _,hx⟩ ?_
 clear hx
 rintro ⟨v5,i⟩ w3 ⟨hil,ho,hxw⟩
 simp only at hil ho hxw ⊢
 have hx := Ext.refl w3
 have hs3 := hs13.ext hxw
 by_cases hlt : i < es.length
 ·have hmem := List.getElem_mem hlt
  obtain ⟨p,hp⟩ : ∃ p,es[i] = p := ⟨_,rfl⟩
  rw [hp] at hmem
  have hsn : (es.take (i + 1)).map shortP = (es.take i).map shortP ++ [shortP p] := by rw [List.take_succ_eq_append_getElem hlt,List.map_append,hp]; rfl
  have hEp := hE' p hmem
  obtain ⟨⟨kind,en,ver,name,text,eds,⟨rcl,rid,rq,ra,rn⟩⟩,ve⟩ := p
  obtain ⟨_,pe,ce,epe,_⟩ := id hEp.edits
  simp only at epe
  subst epe
  refine Wp.seq (Wp.region ?_)
  first | refine Rg.tm trivial rfl (t_lssT rfl rfl (by omega)) rfl ?_ | refine Rg.tm trivial rfl (t_lssF rfl rfl (by omega)) rfl ?_ | refine Rg.tm trivial rfl (t_lss rfl rfl) rfl ?_
  refine Rg.done ?_
  refine Wp.seq ?_
  refine Wp.condT rfl ?_
  refine Wp.skip ?_
  refine Wp.seq ?_
  refine Wp.block ?_
  refine Wp.seq (Wp.region ?_)
  refine Rg.ix hs3 trivial rfl rfl Tryz.underlying22 ty29 (by omega) rfl ?_
  intro bt17 ot17 ht17
  rw [Int.toNat_natCast,encs_at evp_len es i hlt,hp] at ht17
  simp only [evp,evc] at ht17
  refine Rg.tm trivial rfl (t_loadA rfl ht17 ty29) rfl ?_
  refine Rg.wd trivial (w_new Tryz.zeroValue29 rfl) rfl ?_
  rintro _ wa ⟨b7,rfl,qb7,hxa,hva⟩
  have k7 := hx.le
  refine Rg.wn trivial (w_put hva rfl rfl rfl ty29 rfl rfl) ?_
  rintro _ w1 ⟨hu,hv7⟩
  have hx1 := hxa.upd hu (Nat.le_of_eq qb7.symm)
  replace hx := hx.ext hx1
  replace hs3 := hs3.ext hx1
  replace ht17 := ht17.ext hx1
  have kb7 : w3.heap.size ≤ b7 := by omega
  have hc7 := hv7.cells
  clear hva hu hxa hs3 ht17
  refine Rg.done ?_
  refine Wp.seq (Wp.region ?_)
  refine Rg.tm trivial rfl (t_fieldAddr fa29_4 rfl) rfl ?_
  refine Rg.tm trivial rfl (t_load ty9 rfl (Cells.get (i := 4) hc7 rfl)) rfl ?_
  refine Rg.tm trivial rfl (t_fieldAddr fa29_4 rfl) rfl ?_
  refine Rg.tm trivial rfl (t_load ty9 rfl (Cells.get (i := 4) hc7 rfl)) rfl ?_
  refine Rg.tm trivial rfl (t_len Tryz.underlying9 rfl) rfl ?_
  refine Rg.tm trivial rfl (t_minI rfl rfl) rfl ?_
  refine Rg.tm trivial rfl (t_sliceS Tryz.underlying9 rfl rfl rfl (by omega)) rfl ?_
  refine Rg.tm trivial rfl (t_fieldAddr fa29_4 rfl) rfl ?_
  refine Rg.wn trivial (w_putF hv7 ty9 rfl rfl rfl rfl rfl) ?_
  rintro _ w2 ⟨hu2,hv7_⟩
  simp only [List.set] at hv7_
  replace hx := hx.upd hu2 (by omega)
  clear hc7 hv7
  have hv7 := hv7_
  clear hv7_
  have hc7 := hv7.cells
  refine Rg.done ?_
  refine Wp.seq ?_
  by_cases hq : rq = 8
  ·skip
   by_cases ha : 300 < ra
   ·skip
    refine Wp.seq (Wp.region ?_)
    refine Rg.tm trivial rfl (t_fieldAddr fa29_6 rfl) rfl ?_
    refine Rg.tm trivial rfl (t_fieldAddr fa27_2 rfl) rfl ?_
    refine Rg.tm trivial rfl (t_load ty3 rfl (Cells.get (i := 8) hc7 rfl)) rfl ?_
    first | refine Rg.tm trivial rfl (t_eqlT rfl rfl (by omega)) rfl ?_ | refine Rg.tm trivial rfl (t_eqlF rfl rfl (by omega)) rfl ?_ | refine Rg.tm trivial rfl (t_eql rfl rfl) rfl ?_
    refine Rg.tm trivial rfl (t_move rfl) rfl ?_
    first | refine Rg.tm ⟨_,rfl,rfl⟩ rfl (t_fieldAddr fa29_6 rfl) rfl ?_ | refine Rg.so rfl rfl ?_
    first | refine Rg.tm ⟨_,rfl,rfl⟩ rfl (t_fieldAddr fa27_3 rfl) rfl ?_ | refine Rg.so rfl rfl ?_
    first | refine Rg.so rfl rfl ?_ | refine Rg.tm ⟨_,rfl,rfl⟩ rfl (t_load ty3 rfl (Cells.get (i := 9) hc7 rfl)) rfl ?_
    first | refine Rg.tm ⟨_,rfl,rfl⟩ rfl (t_gtrT rfl rfl (by omega)) rfl ?_ | refine Rg.tm ⟨_,rfl,rfl⟩ rfl (t_gtrF rfl rfl (by omega)) rfl ?_ | refine Rg.tm ⟨_,rfl,rfl⟩ rfl (t_gtr rfl rfl) rfl ?_ | refine Rg.so rfl rfl ?_
    first | refine Rg.tm trivial rfl (t_pickT rfl rfl) rfl ?_ | refine Rg.tm trivial rfl (t_pickF rfl rfl) rfl ?_
    refine Rg.done ?_
    refine Wp.condT rfl ?_
    refine Wp.region ?_
    refine Rg.tm trivial rfl (t_fieldAddr fa29_6 rfl) rfl ?_
    refine Rg.tm trivial rfl (t_fieldAddr fa27_3 rfl) rfl ?_
    refine Rg.wn trivial (w_putF hv7 ty3 rfl rfl rfl rfl rfl) ?_
    rintro _ w3 ⟨hu3,hv7_⟩
    simp only [List.set] at hv7_
    replace hx := hx.upd hu3 (by omega)
    clear hc7 hv7
    have hv7 := hv7_
    clear hv7_
    have hc7 := hv7.cells
    refine Rg.done ?_
    refine Wp.region ?_
    refine Rg.tm trivial rfl (t_move rfl) rfl ?_
    refine Rg.tm trivial rfl (t_loadA rfl hc7 ty29) rfl ?_
    refine Rg.wd trivial (w_buildSlice (bs22_1 _ _ _ _ _ _ _ _ _ _ _ _ _) rfl) rfl ?_
    rintro _ w4 ⟨bb,rfl,qb,hx4,hvbb⟩
    have hsn1 : SlC _ (.slice (some ⟨bb,0,none⟩) 1 1) 11 1 _ := slc_var hvbb rfl
    replace hx := hx.ext hx4
    have ho4 := own_ext ho hx
    refine Rg.wd trivial (w_appendC w.heap.size Tryz.underlying22 hi29 hz29 hsi29 hby29 rfl (by decide) rfl rfl ho4 hsn1 (by intro u hu; simp only [List.mem_cons,List.not_mem_nil,or_false] at hu; rcases hu with rfl | rfl | rfl | rfl | rfl | rfl | rfl | rfl | rfl | rfl | rfl <;> rfl) (by unfold maxLen; omega) (by omega) (Nat.le_trans hxw.le hx.le)) rfl ?_
    rintro v42 wG ⟨ho2,hgr,_⟩
    have hxG := own_ext3 (hxw.ext hx) ho4 hgr
    refine Rg.tm trivial rfl (t_assign rfl) rfl ?_
    refine Rg.done ?_
    refine Wp.region ?_
    first | refine Rg.tm trivial rfl (t_addI rfl rfl (by omega)) rfl ?_ | refine Rg.tm trivial rfl (t_add rfl rfl) rfl ?_
    refine Rg.tm trivial rfl (t_move rfl) rfl ?_
    refine Rg.done ?_
    have hev : evp (shortP (⟨kind,en,ver,name,text,eds,⟨rcl,rid,rq,ra,rn⟩⟩,.slice pe eds.length ce)) = [.int .i64 kind,.int .i64 en,.int .i64 ver,.string name,.string (text.extract 0 (min text.size 150)),.slice pe eds.length ce,.int .i64 rcl,.int .i64 rid,.int .i64 rq,.int .i64 300,.string rn] := by
     simp only [evp,evc,shortP,shortE,shortR]
     rw [if_pos ⟨hq,ha⟩]
    rw [show (min (text.size : Int) 150).toNat = min text.size 150 from by omega] at ho2
    exact ⟨(v42,i + 1),by repeat (first | exact .nil | refine .cons rfl ?_),⟨hlt,by rw [hsn,encs_append,encs_single,hev]; exact ho2,hxG⟩,by simp only; omega⟩
   ·skip
    refine Wp.seq (Wp.region ?_)
    refine Rg.tm trivial rfl (t_fieldAddr fa29_6 rfl) rfl ?_
    refine Rg.tm trivial rfl (t_fieldAddr fa27_2 rfl) rfl ?_
    refine Rg.tm trivial rfl (t_load ty3 rfl (Cells.get (i := 8) hc7 rfl)) rfl ?_
    first | refine Rg.tm trivial rfl (t_eqlT rfl rfl (by omega)) rfl ?_ | refine Rg.tm trivial rfl (t_eqlF rfl rfl (by omega)) rfl ?_ | refine Rg.tm trivial rfl (t_eql rfl rfl) rfl ?_
    refine Rg.tm trivial rfl (t_move rfl) rfl ?_
    first | refine Rg.tm ⟨_,rfl,rfl⟩ rfl (t_fieldAddr fa29_6 rfl) rfl ?_ | refine Rg.so rfl rfl ?_
    first | refine Rg.tm ⟨_,rfl,rfl⟩ rfl (t_fieldAddr fa27_3 rfl) rfl ?_ | refine Rg.so rfl rfl ?_
    first | refine Rg.so rfl rfl ?_ | refine Rg.tm ⟨_,rfl,rfl⟩ rfl (t_load ty3 rfl (Cells.get (i := 9) hc7 rfl)) rfl ?_
    first | refine Rg.tm ⟨_,rfl,rfl⟩ rfl (t_gtrT rfl rfl (by omega)) rfl ?_ | refine Rg.tm ⟨_,rfl,rfl⟩ rfl (t_gtrF rfl rfl (by omega)) rfl ?_ | refine Rg.tm ⟨_,rfl,rfl⟩ rfl (t_gtr rfl rfl) rfl ?_ | refine Rg.so rfl rfl ?_
    first | refine Rg.tm trivial rfl (t_pickT rfl rfl) rfl ?_ | refine Rg.tm trivial rfl (t_pickF rfl rfl) rfl ?_
    refine Rg.done ?_
    refine Wp.condF rfl ?_
    refine Wp.skip ?_
    refine Wp.region ?_
    refine Rg.tm trivial rfl (t_move rfl) rfl ?_
    refine Rg.tm trivial rfl (t_loadA rfl hc7 ty29) rfl ?_
    refine Rg.wd trivial (w_buildSlice (bs22_1 _ _ _ _ _ _ _ _ _ _ _ _ _) rfl) rfl ?_
    rintro _ w3 ⟨bb,rfl,qb,hx3,hvbb⟩
    have hsn1 : SlC _ (.slice (some ⟨bb,0,none⟩) 1 1) 11 1 _ := slc_var hvbb rfl
    replace hx := hx.ext hx3
    have ho4 := own_ext ho hx
    refine Rg.wd trivial (w_appendC w.heap.size Tryz.underlying22 hi29 hz29 hsi29 hby29 rfl (by decide) rfl rfl ho4 hsn1 (by intro u hu; simp only [List.mem_cons,List.not_mem_nil,or_false] at hu; rcases hu with rfl | rfl | rfl | rfl | rfl | rfl | rfl | rfl | rfl | rfl | rfl <;> rfl) (by unfold maxLen; omega) (by omega) (Nat.le_trans hxw.le hx.le)) rfl ?_
    rintro v42 wG ⟨ho2,hgr,_⟩
    have hxG := own_ext3 (hxw.ext hx) ho4 hgr
    refine Rg.tm trivial rfl (t_assign rfl) rfl ?_
    refine Rg.done ?_
    refine Wp.region ?_
    first | refine Rg.tm trivial rfl (t_addI rfl rfl (by omega)) rfl ?_ | refine Rg.tm trivial rfl (t_add rfl rfl) rfl ?_
    refine Rg.tm trivial rfl (t_move rfl) rfl ?_
    refine Rg.done ?_
    have hev : evp (shortP (⟨kind,en,ver,name,text,eds,⟨rcl,rid,rq,ra,rn⟩⟩,.slice pe eds.length ce)) = [.int .i64 kind,.int .i64 en,.int .i64 ver,.string name,.string (text.extract 0 (min text.size 150)),.slice pe eds.length ce,.int .i64 rcl,.int .i64 rid,.int .i64 rq,.int .i64 ra,.string rn] := by
     simp only [evp,evc,shortP,shortE,shortR]
     rw [if_neg (fun h => ha h.2)]
    rw [show (min (text.size : Int) 150).toNat = min text.size 150 from by omega] at ho2
    exact ⟨(v42,i + 1),by repeat (first | exact .nil | refine .cons rfl ?_),⟨hlt,by rw [hsn,encs_append,encs_single,hev]; exact ho2,hxG⟩,by simp only; omega⟩
  ·skip
   refine Wp.seq (Wp.region ?_)
   refine Rg.tm trivial rfl (t_fieldAddr fa29_6 rfl) rfl ?_
   refine Rg.tm trivial rfl (t_fieldAddr fa27_2 rfl) rfl ?_
   refine Rg.tm trivial rfl (t_load ty3 rfl (Cells.get (i := 8) hc7 rfl)) rfl ?_
   first | refine Rg.tm trivial rfl (t_eqlT rfl rfl (by omega)) rfl ?_ | refine Rg.tm trivial rfl (t_eqlF rfl rfl (by omega)) rfl ?_ | refine Rg.tm trivial rfl (t_eql rfl rfl) rfl ?_
   refine Rg.tm trivial rfl (t_move rfl) rfl ?_
   first | refine Rg.tm ⟨_,rfl,rfl⟩ rfl (t_fieldAddr fa29_6 rfl) rfl ?_ | refine Rg.so rfl rfl ?_
   first | refine Rg.tm ⟨_,rfl,rfl⟩ rfl (t_fieldAddr fa27_3 rfl) rfl ?_ | refine Rg.so rfl rfl ?_
   first | refine Rg.so rfl rfl ?_ | refine Rg.tm ⟨_,rfl,rfl⟩ rfl (t_load ty3 rfl (Cells.get (i := 9) hc7 rfl)) rfl ?_
   first | refine Rg.tm ⟨_,rfl,rfl⟩ rfl (t_gtrT rfl rfl (by omega)) rfl ?_ | refine Rg.tm ⟨_,rfl,rfl⟩ rfl (t_gtrF rfl rfl (by omega)) rfl ?_ | refine Rg.tm ⟨_,rfl,rfl⟩ rfl (t_gtr rfl rfl) rfl ?_ | refine Rg.so rfl rfl ?_
   first | refine Rg.tm trivial rfl (t_pickT rfl rfl) rfl ?_ | refine Rg.tm trivial rfl (t_pickF rfl rfl) rfl ?_
   refine Rg.done ?_
   refine Wp.condF rfl ?_
   refine Wp.skip ?_
   refine Wp.region ?_
   refine Rg.tm trivial rfl (t_move rfl) rfl ?_
   refine Rg.tm trivial rfl (t_loadA rfl hc7 ty29) rfl ?_
   refine Rg.wd trivial (w_buildSlice (bs22_1 _ _ _ _ _ _ _ _ _ _ _ _ _) rfl) rfl ?_
   rintro _ w3 ⟨bb,rfl,qb,hx3,hvbb⟩
   have hsn1 : SlC _ (.slice (some ⟨bb,0,none⟩) 1 1) 11 1 _ := slc_var hvbb rfl
   replace hx := hx.ext hx3
   have ho4 := own_ext ho hx
   refine Rg.wd trivial (w_appendC w.heap.size Tryz.underlying22 hi29 hz29 hsi29 hby29 rfl (by decide) rfl rfl ho4 hsn1 (by intro u hu; simp only [List.mem_cons,List.not_mem_nil,or_false] at hu; rcases hu with rfl | rfl | rfl | rfl | rfl | rfl | rfl | rfl | rfl | rfl | rfl <;> rfl) (by unfold maxLen; omega) (by omega) (Nat.le_trans hxw.le hx.le)) rfl ?_
   rintro v42 wG ⟨ho2,hgr,_⟩
   have hxG := own_ext3 (hxw.ext hx) ho4 hgr
   refine Rg.tm trivial rfl (t_assign rfl) rfl ?_
   refine Rg.done ?_
   refine Wp.region ?_
   first | refine Rg.tm trivial rfl (t_addI rfl rfl (by omega)) rfl ?_ | refine Rg.tm trivial rfl (t_add rfl rfl) rfl ?_
   refine Rg.tm trivial rfl (t_move rfl) rfl ?_
   refine Rg.done ?_
   have hev : evp (shortP (⟨kind,en,ver,name,text,eds,⟨rcl,rid,rq,ra,rn⟩⟩,.slice pe eds.length ce)) = [.int .i64 kind,.int .i64 en,.int .i64 ver,.string name,.string (text.extract 0 (min text.size 150)),.slice pe eds.length ce,.int .i64 rcl,.int .i64 rid,.int .i64 rq,.int .i64 ra,.string rn] := by
    simp only [evp,evc,shortP,shortE,shortR]
    rw [if_neg (fun h => hq h.1)]
   rw [show (min (text.size : Int) 150).toNat = min text.size 150 from by omega] at ho2
   exact ⟨(v42,i + 1),by repeat (first | exact .nil | refine .cons rfl ?_),⟨hlt,by rw [hsn,encs_append,encs_single,hev]; exact ho2,hxG⟩,by simp only; omega⟩
 ·obtain rfl : i = es.length := by omega
  rw [List.take_length] at ho
  refine Wp.seq (Wp.region ?_)
  first | refine Rg.tm trivial rfl (t_lssT rfl rfl (by omega)) rfl ?_ | refine Rg.tm trivial rfl (t_lssF rfl rfl (by omega)) rfl ?_ | refine Rg.tm trivial rfl (t_lss rfl rfl) rfl ?_
  refine Rg.done ?_
  refine Wp.seq ?_
  refine Wp.condF rfl ?_
  refine Wp.exit ?_
  refine Wp.seq (Wp.region ?_)
  refine Rg.tm trivial rfl (t_move rfl) rfl ?_
  refine Rg.tm trivial rfl (t_assign rfl) rfl ?_
  refine Rg.done ?_
  refine Wp.ret ?_
  exact ⟨[_],⟨rfl,trivial⟩,ho,hxw⟩
def fixE (e : Ev TE) : Ev TE := if e.kind = 6 then { e with n := 20 } else e
def fixP (p : Ev TE × Value) : Ev TE × Value := (fixE p.1,p.2)
def woP (l : List (Ev TE × Value)) : List (Ev TE × Value) := (l.map fixP).filter fun p => decide (p.1.kind ≠ 7)
theorem fixE_kind (e : Ev TE) : (fixE e).kind = e.kind := by unfold fixE; split <;> rfl
theorem EvOk.fixP {w : World} {p : Ev TE × Value} (h : EvOk w p) : EvOk w (fixP p) := by
 unfold Go.Proofs.YtliofpegbcegiaaGreatDoor.fixP fixE
 split
 ·exact ⟨h.edits,h.few,h.short,by show (20 : Int) ≤ 9223372036854775807; decide⟩
 ·exact h
theorem without_ok {w : World} {l : List (Ev TE × Value)} {v : Value} (hs0 : SlC w v 11 l.length (encs evp l)) (hE : ∀ p ∈ l,EvOk w p) (hl : l.length ≤ 20) :
  Cl Tryz.prog 14 #[v] w (fun u w' => w'.ownsRow w.heap.size 29 11 u (woP l).length (encs evp (woP l)) ∧ Ext w w') := by
 have hx := Ext.refl w
 obtain ⟨i29,hi29,hz29,hsi29,hby29⟩ := inf29
 refine Cl.enter Tryz.func14 rfl Tryz.ntmps14 rfl rfl ?_
 refine Wp.seq (Wp.region ?_)
 refine Rg.tm trivial rfl (t_assign rfl) rfl ?_
 refine Rg.done ?_
 refine Wp.seq (Wp.region ?_)
 refine Rg.tm trivial rfl (t_assign rfl) rfl ?_
 refine Rg.done ?_
 refine Wp.seq ?_
 refine Wp.seq (Wp.region ?_)
 refine Rg.tm trivial rfl (t_move rfl) rfl ?_
 refine Rg.tm trivial rfl (t_lenC hs0 Tryz.underlying22 rfl) rfl ?_
 refine Rg.tm trivial rfl (t_move rfl) rfl ?_
 refine Rg.done ?_
 refine Wp.block ?_
 refine Wp.loop (ι := Value × Nat) (fun i => [(3,i.1),(6,v),(7,.int .i64 l.length),(8,.int .i64 i.2)])
  (fun i w' => i.2 ≤ l.length ∧ w'.ownsRow w.heap.size 29 11 i.1 (woP (l.take i.2)).length (encs evp (woP (l.take i.2))) ∧ Ext w w') (fun i => l.length - i.2) (.slice none 0 0,0) (by repeat (first | exact .nil | refine .cons rfl ?_)) ⟨Nat.zero_le _,own_nil _ _ _ _,hx⟩ ?_
 clear hx
 rintro ⟨v3,i⟩ w3 ⟨hil,ho,hxw⟩
 simp only at hil ho hxw ⊢
 have hx := Ext.refl w3
 have hs3 := hs0.ext hxw
 have hwl : (woP (l.take i)).length ≤ 20 := by
  unfold woP
  have := List.length_filter_le (fun p : Ev TE × Value => decide (p.1.kind ≠ 7)) ((l.take i).map fixP)
  rw [List.length_map,List.length_take] at this
  omega
 by_cases hlt : i < l.length
 ·have hmem := List.getElem_mem hlt
  obtain ⟨p,hp⟩ : ∃ p,l[i] = p := ⟨_,rfl⟩
  rw [hp] at hmem
  have hsn : woP (l.take (i + 1)) = woP (l.take i) ++ (if (fixP p).1.kind ≠ 7 then [fixP p] else []) := by
   unfold woP
   rw [List.take_succ_eq_append_getElem hlt,List.map_append,List.filter_append,hp]
   congr 1
   by_cases h : (fixP p).1.kind ≠ 7
   ·rw [if_pos h]; simp [h]
   ·rw [if_neg h]; simp only [ne_eq,Decidable.not_not] at h; simp [h]
  have hEp := hE p hmem
  obtain ⟨⟨kind,en,ver,name,text,eds,⟨rcl,rid,rq,ra,rn⟩⟩,ve⟩ := p
  obtain ⟨_,pe,ce,epe,_⟩ := id hEp.edits
  simp only at epe
  subst epe
  by_cases h6 : kind = 6
  ·skip
   have hfx : fixP (⟨kind,en,ver,name,text,eds,⟨rcl,rid,rq,ra,rn⟩⟩,.slice pe eds.length ce) = (⟨kind,20,ver,name,text,eds,⟨rcl,rid,rq,ra,rn⟩⟩,.slice pe eds.length ce) := by unfold fixP fixE; rw [if_pos h6]
   have h7 : ¬ kind = 7 := by omega
   refine Wp.seq (Wp.region ?_)
   first | refine Rg.tm trivial rfl (t_lssT rfl rfl (by omega)) rfl ?_ | refine Rg.tm trivial rfl (t_lssF rfl rfl (by omega)) rfl ?_ | refine Rg.tm trivial rfl (t_lss rfl rfl) rfl ?_
   refine Rg.done ?_
   refine Wp.seq ?_
   refine Wp.condT rfl ?_
   refine Wp.skip ?_
   refine Wp.seq ?_
   refine Wp.block ?_
   refine Wp.seq (Wp.region ?_)
   refine Rg.ix hs3 trivial rfl rfl Tryz.underlying22 ty29 (by omega) rfl ?_
   intro bt10 ot10 ht10
   rw [Int.toNat_natCast,encs_at evp_len l i hlt,hp] at ht10
   simp only [evp,evc] at ht10
   refine Rg.tm trivial rfl (t_loadA rfl ht10 ty29) rfl ?_
   refine Rg.wd trivial (w_new Tryz.zeroValue29 rfl) rfl ?_
   rintro _ wa ⟨b7,rfl,qb7,hxa,hva⟩
   have k7 := hx.le
   refine Rg.wn trivial (w_put hva rfl rfl rfl ty29 rfl rfl) ?_
   rintro _ w1 ⟨hu,hv7⟩
   have hx1 := hxa.upd hu (Nat.le_of_eq qb7.symm)
   replace hx := hx.ext hx1
   replace hs3 := hs3.ext hx1
   replace ht10 := ht10.ext hx1
   have kb7 : w3.heap.size ≤ b7 := by omega
   have hc7 := hv7.cells
   clear hva hu hxa hs3 ht10
   refine Rg.done ?_
   refine Wp.seq ?_
   refine Wp.seq (Wp.region ?_)
   refine Rg.tm trivial rfl (t_fieldAddr fa29_0 rfl) rfl ?_
   refine Rg.tm trivial rfl (t_load ty3 rfl (Cells.get (i := 0) hc7 rfl)) rfl ?_
   first | refine Rg.tm trivial rfl (t_eqlT rfl rfl (by omega)) rfl ?_ | refine Rg.tm trivial rfl (t_eqlF rfl rfl (by omega)) rfl ?_ | refine Rg.tm trivial rfl (t_eql rfl rfl) rfl ?_
   refine Rg.done ?_
   refine Wp.condT rfl ?_
   refine Wp.region ?_
   refine Rg.tm trivial rfl (t_fieldAddr fa29_1 rfl) rfl ?_
   refine Rg.wn trivial (w_putF hv7 ty3 rfl rfl rfl rfl rfl) ?_
   rintro _ w2 ⟨hu2,hv7_⟩
   simp only [List.set] at hv7_
   replace hx := hx.upd hu2 (by omega)
   clear hc7 hv7
   have hv7 := hv7_
   clear hv7_
   have hc7 := hv7.cells
   refine Rg.done ?_
   refine Wp.seq (Wp.region ?_)
   refine Rg.tm trivial rfl (t_fieldAddr fa29_0 rfl) rfl ?_
   refine Rg.tm trivial rfl (t_load ty3 rfl (Cells.get (i := 0) hc7 rfl)) rfl ?_
   first | refine Rg.tm trivial rfl (t_neqT rfl rfl (by omega)) rfl ?_ | refine Rg.tm trivial rfl (t_neqF rfl rfl (by omega)) rfl ?_ | refine Rg.tm trivial rfl (t_neq rfl rfl) rfl ?_
   refine Rg.done ?_
   refine Wp.condT rfl ?_
   refine Wp.region ?_
   refine Rg.tm trivial rfl (t_move rfl) rfl ?_
   refine Rg.tm trivial rfl (t_loadA rfl hc7 ty29) rfl ?_
   refine Rg.wd trivial (w_buildSlice (bs22_1 _ _ _ _ _ _ _ _ _ _ _ _ _) rfl) rfl ?_
   rintro _ w3 ⟨bb,rfl,qb,hx3,hvbb⟩
   have hsn1 : SlC _ (.slice (some ⟨bb,0,none⟩) 1 1) 11 1 _ := slc_var hvbb rfl
   replace hx := hx.ext hx3
   have ho4 := own_ext ho hx
   refine Rg.wd trivial (w_appendC w.heap.size Tryz.underlying22 hi29 hz29 hsi29 hby29 rfl (by decide) rfl rfl ho4 hsn1 (by intro u hu; simp only [List.mem_cons,List.not_mem_nil,or_false] at hu; rcases hu with rfl | rfl | rfl | rfl | rfl | rfl | rfl | rfl | rfl | rfl | rfl <;> rfl) (by unfold maxLen; omega) (by omega) (Nat.le_trans hxw.le hx.le)) rfl ?_
   rintro v42 wG ⟨ho2,hgr,_⟩
   have hxG := own_ext3 (hxw.ext hx) ho4 hgr
   refine Rg.tm trivial rfl (t_assign rfl) rfl ?_
   refine Rg.done ?_
   refine Wp.region ?_
   first | refine Rg.tm trivial rfl (t_addI rfl rfl (by omega)) rfl ?_ | refine Rg.tm trivial rfl (t_add rfl rfl) rfl ?_
   refine Rg.tm trivial rfl (t_move rfl) rfl ?_
   refine Rg.done ?_
   exact ⟨(v42,i + 1),by repeat (first | exact .nil | refine .cons rfl ?_),⟨hlt,by rw [hsn,hfx,if_pos (by simpa using h7),List.length_append,encs_append,encs_single]; exact ho2,hxG⟩,by simp only; omega⟩
  ·skip
   have hfx : fixP (⟨kind,en,ver,name,text,eds,⟨rcl,rid,rq,ra,rn⟩⟩,.slice pe eds.length ce) = (⟨kind,en,ver,name,text,eds,⟨rcl,rid,rq,ra,rn⟩⟩,.slice pe eds.length ce) := by unfold fixP fixE; rw [if_neg h6]
   by_cases h7 : kind = 7
   ·skip
    refine Wp.seq (Wp.region ?_)
    first | refine Rg.tm trivial rfl (t_lssT rfl rfl (by omega)) rfl ?_ | refine Rg.tm trivial rfl (t_lssF rfl rfl (by omega)) rfl ?_ | refine Rg.tm trivial rfl (t_lss rfl rfl) rfl ?_
    refine Rg.done ?_
    refine Wp.seq ?_
    refine Wp.condT rfl ?_
    refine Wp.skip ?_
    refine Wp.seq ?_
    refine Wp.block ?_
    refine Wp.seq (Wp.region ?_)
    refine Rg.ix hs3 trivial rfl rfl Tryz.underlying22 ty29 (by omega) rfl ?_
    intro bt10 ot10 ht10
    rw [Int.toNat_natCast,encs_at evp_len l i hlt,hp] at ht10
    simp only [evp,evc] at ht10
    refine Rg.tm trivial rfl (t_loadA rfl ht10 ty29) rfl ?_
    refine Rg.wd trivial (w_new Tryz.zeroValue29 rfl) rfl ?_
    rintro _ wa ⟨b7,rfl,qb7,hxa,hva⟩
    have k7 := hx.le
    refine Rg.wn trivial (w_put hva rfl rfl rfl ty29 rfl rfl) ?_
    rintro _ w1 ⟨hu,hv7⟩
    have hx1 := hxa.upd hu (Nat.le_of_eq qb7.symm)
    replace hx := hx.ext hx1
    replace hs3 := hs3.ext hx1
    replace ht10 := ht10.ext hx1
    have kb7 : w3.heap.size ≤ b7 := by omega
    have hc7 := hv7.cells
    clear hva hu hxa hs3 ht10
    refine Rg.done ?_
    refine Wp.seq ?_
    refine Wp.seq (Wp.region ?_)
    refine Rg.tm trivial rfl (t_fieldAddr fa29_0 rfl) rfl ?_
    refine Rg.tm trivial rfl (t_load ty3 rfl (Cells.get (i := 0) hc7 rfl)) rfl ?_
    first | refine Rg.tm trivial rfl (t_eqlT rfl rfl (by omega)) rfl ?_ | refine Rg.tm trivial rfl (t_eqlF rfl rfl (by omega)) rfl ?_ | refine Rg.tm trivial rfl (t_eql rfl rfl) rfl ?_
    refine Rg.done ?_
    refine Wp.condF rfl ?_
    refine Wp.skip ?_
    refine Wp.seq (Wp.region ?_)
    refine Rg.tm trivial rfl (t_fieldAddr fa29_0 rfl) rfl ?_
    refine Rg.tm trivial rfl (t_load ty3 rfl (Cells.get (i := 0) hc7 rfl)) rfl ?_
    first | refine Rg.tm trivial rfl (t_neqT rfl rfl (by omega)) rfl ?_ | refine Rg.tm trivial rfl (t_neqF rfl rfl (by omega)) rfl ?_ | refine Rg.tm trivial rfl (t_neq rfl rfl) rfl ?_
    refine Rg.done ?_
    refine Wp.condF rfl ?_
    refine Wp.skip ?_
    refine Wp.region ?_
    first | refine Rg.tm trivial rfl (t_addI rfl rfl (by omega)) rfl ?_ | refine Rg.tm trivial rfl (t_add rfl rfl) rfl ?_
    refine Rg.tm trivial rfl (t_move rfl) rfl ?_
    refine Rg.done ?_
    exact ⟨(v3,i + 1),by repeat (first | exact .nil | refine .cons rfl ?_),⟨hlt,by rw [hsn,hfx,if_neg (by simpa using h7),List.append_nil]; exact own_ext ho hx,hxw.ext hx⟩,by simp only; omega⟩
   ·skip
    refine Wp.seq (Wp.region ?_)
    first | refine Rg.tm trivial rfl (t_lssT rfl rfl (by omega)) rfl ?_ | refine Rg.tm trivial rfl (t_lssF rfl rfl (by omega)) rfl ?_ | refine Rg.tm trivial rfl (t_lss rfl rfl) rfl ?_
    refine Rg.done ?_
    refine Wp.seq ?_
    refine Wp.condT rfl ?_
    refine Wp.skip ?_
    refine Wp.seq ?_
    refine Wp.block ?_
    refine Wp.seq (Wp.region ?_)
    refine Rg.ix hs3 trivial rfl rfl Tryz.underlying22 ty29 (by omega) rfl ?_
    intro bt10 ot10 ht10
    rw [Int.toNat_natCast,encs_at evp_len l i hlt,hp] at ht10
    simp only [evp,evc] at ht10
    refine Rg.tm trivial rfl (t_loadA rfl ht10 ty29) rfl ?_
    refine Rg.wd trivial (w_new Tryz.zeroValue29 rfl) rfl ?_
    rintro _ wa ⟨b7,rfl,qb7,hxa,hva⟩
    have k7 := hx.le
    refine Rg.wn trivial (w_put hva rfl rfl rfl ty29 rfl rfl) ?_
    rintro _ w1 ⟨hu,hv7⟩
    have hx1 := hxa.upd hu (Nat.le_of_eq qb7.symm)
    replace hx := hx.ext hx1
    replace hs3 := hs3.ext hx1
    replace ht10 := ht10.ext hx1
    have kb7 : w3.heap.size ≤ b7 := by omega
    have hc7 := hv7.cells
    clear hva hu hxa hs3 ht10
    refine Rg.done ?_
    refine Wp.seq ?_
    refine Wp.seq (Wp.region ?_)
    refine Rg.tm trivial rfl (t_fieldAddr fa29_0 rfl) rfl ?_
    refine Rg.tm trivial rfl (t_load ty3 rfl (Cells.get (i := 0) hc7 rfl)) rfl ?_
    first | refine Rg.tm trivial rfl (t_eqlT rfl rfl (by omega)) rfl ?_ | refine Rg.tm trivial rfl (t_eqlF rfl rfl (by omega)) rfl ?_ | refine Rg.tm trivial rfl (t_eql rfl rfl) rfl ?_
    refine Rg.done ?_
    refine Wp.condF rfl ?_
    refine Wp.skip ?_
    refine Wp.seq (Wp.region ?_)
    refine Rg.tm trivial rfl (t_fieldAddr fa29_0 rfl) rfl ?_
    refine Rg.tm trivial rfl (t_load ty3 rfl (Cells.get (i := 0) hc7 rfl)) rfl ?_
    first | refine Rg.tm trivial rfl (t_neqT rfl rfl (by omega)) rfl ?_ | refine Rg.tm trivial rfl (t_neqF rfl rfl (by omega)) rfl ?_ | refine Rg.tm trivial rfl (t_neq rfl rfl) rfl ?_
    refine Rg.done ?_
    refine Wp.condT rfl ?_
    refine Wp.region ?_
    refine Rg.tm trivial rfl (t_move rfl) rfl ?_
    refine Rg.tm trivial rfl (t_loadA rfl hc7 ty29) rfl ?_
    refine Rg.wd trivial (w_buildSlice (bs22_1 _ _ _ _ _ _ _ _ _ _ _ _ _) rfl) rfl ?_
    rintro _ w2 ⟨bb,rfl,qb,hx2,hvbb⟩
    have hsn1 : SlC _ (.slice (some ⟨bb,0,none⟩) 1 1) 11 1 _ := slc_var hvbb rfl
    replace hx := hx.ext hx2
    have ho4 := own_ext ho hx
    refine Rg.wd trivial (w_appendC w.heap.size Tryz.underlying22 hi29 hz29 hsi29 hby29 rfl (by decide) rfl rfl ho4 hsn1 (by intro u hu; simp only [List.mem_cons,List.not_mem_nil,or_false] at hu; rcases hu with rfl | rfl | rfl | rfl | rfl | rfl | rfl | rfl | rfl | rfl | rfl <;> rfl) (by unfold maxLen; omega) (by omega) (Nat.le_trans hxw.le hx.le)) rfl ?_
    rintro v42 wG ⟨ho2,hgr,_⟩
    have hxG := own_ext3 (hxw.ext hx) ho4 hgr
    refine Rg.tm trivial rfl (t_assign rfl) rfl ?_
    refine Rg.done ?_
    refine Wp.region ?_
    first | refine Rg.tm trivial rfl (t_addI rfl rfl (by omega)) rfl ?_ | refine Rg.tm trivial rfl (t_add rfl rfl) rfl ?_
    refine Rg.tm trivial rfl (t_move rfl) rfl ?_
    refine Rg.done ?_
    exact ⟨(v42,i + 1),by repeat (first | exact .nil | refine .cons rfl ?_),⟨hlt,by rw [hsn,hfx,if_pos (by simpa using h7),List.length_append,encs_append,encs_single]; exact ho2,hxG⟩,by simp only; omega⟩
 ·obtain rfl : i = l.length := by omega
  rw [List.take_length] at ho
  refine Wp.seq (Wp.region ?_)
  first | refine Rg.tm trivial rfl (t_lssT rfl rfl (by omega)) rfl ?_ | refine Rg.tm trivial rfl (t_lssF rfl rfl (by omega)) rfl ?_ | refine Rg.tm trivial rfl (t_lss rfl rfl) rfl ?_
  refine Rg.done ?_
  refine Wp.seq ?_
  refine Wp.condF rfl ?_
  refine Wp.exit ?_
  refine Wp.seq (Wp.region ?_)
  refine Rg.tm trivial rfl (t_move rfl) rfl ?_
  refine Rg.tm trivial rfl (t_assign rfl) rfl ?_
  refine Rg.done ?_
  refine Wp.ret ?_
  exact ⟨[_],⟨rfl,trivial⟩,ho,hxw⟩
end Go.Proofs.YtliofpegbcegiaaGreatDoor
namespace Go.Proofs.YtliofpegbcegiaaGreatDoor
set_option maxRecDepth 20000
open Go.Gx Go.RowKit Go.Lib
theorem _root_.Go.Gx.Row.max {w : World} {e size n : Nat} {v : Value} {xs : List Value} (h : Row w e size v n xs) : n ≤ 9223372036854775807 := by
 rcases h.2 with ⟨_,h0⟩ | ⟨b,o,cap,cur,_,h1,h2,_⟩
 ·omega
 ·have : cap ≤ 9223372036854775807 := h2
  omega
theorem part9 (xs : Array Value) (v : Value) (o : Nat) (h : xs[o]? = some v) (w : World) : (part 9 xs o).run Tryz.prog w = .ok v w := by
 have h1 := ty9.ag w
 have h2 := ty9.sz w
 simp [part,h1,h2,h]
theorem strEq (d : Nat) (p q : BA) (w : World) : (Op.equalIn (d + 1) 9 (.string p) (.string q)).run Tryz.prog w = .ok (decide (p = q)) w := by
 rw [run_equalIn_string w d 9 p q Tryz.underlying9]
 first | rw [bytes_beq] | rw [← beq_toListBytes,bytes_beq]
theorem fields52 : (Tryz.prog.fieldsOf 52).toList.map (fun f => (f.name != "_",f.type,f.offset)) = [(true,9,0),(true,9,1)] := by kernel_rfl
theorem under52 : Tryz.prog.underlying 52 = some (.struct (Tryz.prog.fieldsOf 52)) := by kernel_rfl
theorem eq52 (a b x y : BA) (w : World) : (Op.equal 52 (.agg #[.string a,.string b]) (.agg #[.string x,.string y])).run Tryz.prog w = .ok (decide (a = x) && decide (b = y)) w := by
 obtain ⟨f0,f1,hf,n0,t0,o0,n1,t1,o1⟩ : ∃ f0 f1 : Field,(Tryz.prog.fieldsOf 52).toList = [f0,f1] ∧ f0.name ≠ "_" ∧ f0.type = 9 ∧ f0.offset = 0 ∧ f1.name ≠ "_" ∧ f1.type = 9 ∧ f1.offset = 1 := by
  have hf := fields52
  generalize (Tryz.prog.fieldsOf 52).toList = fs at hf ⊢
  rcases fs with _ | ⟨f0,_ | ⟨f1,_ | ⟨f2,r⟩⟩⟩
  ·cases hf
  ·simp at hf
  ·simp only [List.map_cons,List.map_nil,List.cons.injEq,Prod.mk.injEq,and_true,bne_iff_ne,ne_eq] at hf
   obtain ⟨⟨n0,t0,o0⟩,n1,t1,o1⟩ := hf
   exact ⟨f0,f1,rfl,n0,t0,o0,n1,t1,o1⟩
  ·simp at hf
 unfold Op.equal
 rw [show Op.maxDepth = 9999 + 1 from rfl,run_equalIn_struct w 9999 52 _ _ under52 (by kernel_rfl),hf]
 have e1 : ∀ p q : BA,(Op.equalIn 9999 9 (.string p) (.string q)).run Tryz.prog w = .ok (decide (p = q)) w := fun p q => strEq 9998 p q w
 have p0 := part9 #[.string a,.string b] (.string a) 0 rfl w
 have p1 := part9 #[.string a,.string b] (.string b) 1 rfl w
 have q0 := part9 #[.string x,.string y] (.string x) 0 rfl w
 have q1 := part9 #[.string x,.string y] (.string y) 1 rfl w
 have ea := e1 a x
 have eb := e1 b y
 generalize decide (a = x) = r1 at ea ⊢
 generalize decide (b = y) = r2 at eb ⊢
 simp only [Op.eqFields,t0,t1,o0,o1,n0,n1,ne_eq,not_false_eq_true,if_true,Sem.run_bind,p0,q0,Result.andThen_ok,ea]
 cases r1
 ·simp
 ·simp [p1,q1,eb]
  cases r2 <;> simp
theorem fields27 : (Tryz.prog.fieldsOf 27).toList.map (fun f => (f.name != "_",f.type,f.offset)) = [(true,3,0),(true,3,1),(true,3,2),(true,3,3),(true,9,4)] := by kernel_rfl
theorem under27 : Tryz.prog.underlying 27 = some (.struct (Tryz.prog.fieldsOf 27)) := by kernel_rfl
theorem eq27 (a b c d : Int) (e : BA) (x y z u : Int) (v : BA) (w : World) : (Op.equal 27 (.agg #[.int .i64 a,.int .i64 b,.int .i64 c,.int .i64 d,.string e]) (.agg #[.int .i64 x,.int .i64 y,.int .i64 z,.int .i64 u,.string v])).run Tryz.prog w = .ok (a == x && (b == y && (c == z && (d == u && decide (e = v))))) w := by
 obtain ⟨f0,f1,f2,f3,f4,hf,n0,t0,o0,n1,t1,o1,n2,t2,o2,n3,t3,o3,n4,t4,o4⟩ : ∃ f0 f1 f2 f3 f4 : Field,(Tryz.prog.fieldsOf 27).toList = [f0,f1,f2,f3,f4] ∧ f0.name ≠ "_" ∧ f0.type = 3 ∧ f0.offset = 0 ∧ f1.name ≠ "_" ∧ f1.type = 3 ∧ f1.offset = 1 ∧ f2.name ≠ "_" ∧ f2.type = 3 ∧ f2.offset = 2 ∧ f3.name ≠ "_" ∧ f3.type = 3 ∧ f3.offset = 3 ∧ f4.name ≠ "_" ∧ f4.type = 9 ∧ f4.offset = 4 := by
  have hf := fields27
  generalize (Tryz.prog.fieldsOf 27).toList = fs at hf ⊢
  rcases fs with _ | ⟨f0,_ | ⟨f1,_ | ⟨f2,_ | ⟨f3,_ | ⟨f4,_ | ⟨f5,r⟩⟩⟩⟩⟩⟩
  ·cases hf
  ·simp at hf
  ·simp at hf
  ·simp at hf
  ·simp at hf
  ·simp only [List.map_cons,List.map_nil,List.cons.injEq,Prod.mk.injEq,and_true,bne_iff_ne,ne_eq] at hf
   obtain ⟨⟨n0,t0,o0⟩,⟨n1,t1,o1⟩,⟨n2,t2,o2⟩,⟨n3,t3,o3⟩,n4,t4,o4⟩ := hf
   exact ⟨f0,f1,f2,f3,f4,rfl,n0,t0,o0,n1,t1,o1,n2,t2,o2,n3,t3,o3,n4,t4,o4⟩
  ·simp at hf
 unfold Op.equal
 rw [show Op.maxDepth = 9999 + 1 from rfl,run_equalIn_struct w 9999 27 _ _ under27 (by kernel_rfl),hf]
 have e1 : ∀ p q : Int,(Op.equalIn 9999 3 (.int .i64 p) (.int .i64 q)).run Tryz.prog w = .ok (p == q) w := fun p q => run_equalIn_int w 9998 3 .i64 .i64 p q Tryz.underlying3
 have e2 : (Op.equalIn 9999 9 (.string e) (.string v)).run Tryz.prog w = .ok (decide (e = v)) w := strEq 9998 e v w
 have p0 := part3 #[.int .i64 a,.int .i64 b,.int .i64 c,.int .i64 d,.string e] (.int .i64 a) 0 rfl w
 have p1 := part3 #[.int .i64 a,.int .i64 b,.int .i64 c,.int .i64 d,.string e] (.int .i64 b) 1 rfl w
 have p2 := part3 #[.int .i64 a,.int .i64 b,.int .i64 c,.int .i64 d,.string e] (.int .i64 c) 2 rfl w
 have p3 := part3 #[.int .i64 a,.int .i64 b,.int .i64 c,.int .i64 d,.string e] (.int .i64 d) 3 rfl w
 have p4 := part9 #[.int .i64 a,.int .i64 b,.int .i64 c,.int .i64 d,.string e] (.string e) 4 rfl w
 have q0 := part3 #[.int .i64 x,.int .i64 y,.int .i64 z,.int .i64 u,.string v] (.int .i64 x) 0 rfl w
 have q1 := part3 #[.int .i64 x,.int .i64 y,.int .i64 z,.int .i64 u,.string v] (.int .i64 y) 1 rfl w
 have q2 := part3 #[.int .i64 x,.int .i64 y,.int .i64 z,.int .i64 u,.string v] (.int .i64 z) 2 rfl w
 have q3 := part3 #[.int .i64 x,.int .i64 y,.int .i64 z,.int .i64 u,.string v] (.int .i64 u) 3 rfl w
 have q4 := part9 #[.int .i64 x,.int .i64 y,.int .i64 z,.int .i64 u,.string v] (.string v) 4 rfl w
 have ea := e1 a x
 have eb := e1 b y
 have ec := e1 c z
 have ed := e1 d u
 generalize (a == x) = r1 at ea ⊢
 generalize (b == y) = r2 at eb ⊢
 generalize (c == z) = r3 at ec ⊢
 generalize (d == u) = r4 at ed ⊢
 generalize decide (e = v) = r5 at e2 ⊢
 simp only [Op.eqFields,t0,t1,t2,t3,t4,o0,o1,o2,o3,o4,n0,n1,n2,n3,n4,ne_eq,not_false_eq_true,if_true,Sem.run_bind,p0,q0,Result.andThen_ok,ea]
 cases r1
 ·simp
 ·simp [p1,q1,eb]
  cases r2
  ·simp
  ·simp [p2,q2,ec]
   cases r3
   ·simp
   ·simp [p3,q3,ed]
    cases r4
    ·simp
    ·simp [p4,q4,e2]
     cases r5 <;> simp
theorem equalI_ok {w : World} {v1 v2 : Value} {xs ys : List Int} (hx0 : SlC w v1 1 xs.length (encs ei xs)) (hy0 : SlC w v2 1 ys.length (encs ei ys)) (hn : xs.length ≤ 9223372036854775807) :
  Cl Tryz.prog 23 #[v1,v2] w (fun u w' => (∃ b : Bool,u = .bool b ∧ (b = true ↔ xs = ys)) ∧ Ext w w') := by
 have hx := Ext.refl w
 by_cases hnm : xs.length = ys.length
 ·skip
  refine Cl.enter Tryz.func23 rfl Tryz.ntmps23 rfl rfl ?_
  refine Wp.seq (Wp.region ?_)
  refine Rg.tm trivial rfl (t_assign rfl) rfl ?_
  refine Rg.done ?_
  refine Wp.seq ?_
  refine Wp.seq (Wp.region ?_)
  refine Rg.tm trivial rfl (t_move rfl) rfl ?_
  refine Rg.tm trivial rfl (t_lenC hx0 Tryz.underlying41 rfl) rfl ?_
  refine Rg.tm trivial rfl (t_move rfl) rfl ?_
  refine Rg.tm trivial rfl (t_lenC hy0 Tryz.underlying41 rfl) rfl ?_
  first | refine Rg.tm trivial rfl (t_neqT rfl rfl (by omega)) rfl ?_ | refine Rg.tm trivial rfl (t_neqF rfl rfl (by omega)) rfl ?_ | refine Rg.tm trivial rfl (t_neq rfl rfl) rfl ?_
  refine Rg.done ?_
  refine Wp.condF rfl ?_
  refine Wp.skip ?_
  refine Wp.seq ?_
  refine Wp.seq (Wp.region ?_)
  refine Rg.tm trivial rfl (t_move rfl) rfl ?_
  refine Rg.tm trivial rfl (t_lenC hx0 Tryz.underlying41 rfl) rfl ?_
  refine Rg.tm trivial rfl (t_move rfl) rfl ?_
  refine Rg.done ?_
  refine Wp.block ?_
  refine Wp.loop (ι := Nat) (fun k => [(0,v1),(1,v2),(12,.int .i64 xs.length),(13,.int .i64 k)])
   (fun k w' => k ≤ xs.length ∧ (∀ j (h : j < k),xs[j]? = ys[j]?) ∧ Ext w w') (fun k => xs.length - k) 0 (by repeat (first | exact .nil | refine .cons rfl ?_)) ⟨Nat.zero_le _,fun j h => by omega,hx⟩ ?_
  clear hx
  rintro k w3 ⟨hk,hpre,hx⟩
  by_cases hlt : k < xs.length
  ·have hlt2 : k < ys.length := by omega
   obtain ⟨a,ha⟩ : ∃ a,xs[k] = a := ⟨_,rfl⟩
   obtain ⟨b,hb⟩ : ∃ b,ys[k] = b := ⟨_,rfl⟩
   refine Wp.seq (Wp.region ?_)
   first | refine Rg.tm trivial rfl (t_lssT rfl rfl (by omega)) rfl ?_ | refine Rg.tm trivial rfl (t_lssF rfl rfl (by omega)) rfl ?_ | refine Rg.tm trivial rfl (t_lss rfl rfl) rfl ?_
   refine Rg.done ?_
   refine Wp.seq ?_
   refine Wp.condT rfl ?_
   refine Wp.skip ?_
   refine Wp.seq ?_
   refine Wp.block ?_
   refine Wp.seq (Wp.region ?_)
   refine Rg.tm trivial rfl (t_move rfl) rfl ?_
   refine Rg.tm trivial rfl (t_assign rfl) rfl ?_
   refine Rg.done ?_
   refine Wp.seq (Wp.draw [0,1,2,3,4,5,6,7,8] [] mixed (by kernel_rfl) (by kernel_rfl) ?_)
   intro w1 hx1 _
   replace hx := hx.ext hx1
   refine Rg.tm trivial rfl (t_move rfl) rfl ?_
   refine Rg.tm trivial rfl (t_move rfl) rfl ?_
   refine Rg.ix hx0 trivial rfl rfl Tryz.underlying41 ty3 (by omega) rfl ?_
   intro bt18 ot18 ht18
   replace ht18 := ht18.ext hx
   rw [Int.toNat_natCast,encs_at ei_len xs k hlt,ha] at ht18
   refine Rg.tm trivial rfl (t_load ty3 rfl (Cells.get (i := 0) ht18 rfl)) rfl ?_
   refine Rg.tm trivial rfl (t_move rfl) rfl ?_
   refine Rg.tm trivial rfl (t_move rfl) rfl ?_
   refine Rg.ix hy0 trivial rfl rfl Tryz.underlying41 ty3 (by omega) rfl ?_
   intro bt22 ot22 ht22
   replace ht22 := ht22.ext hx
   rw [Int.toNat_natCast,encs_at ei_len ys k hlt2,hb] at ht22
   refine Rg.tm trivial rfl (t_load ty3 rfl (Cells.get (i := 0) ht22 rfl)) rfl ?_
   refine Rg.tm trivial rfl (t_neq rfl rfl) rfl ?_
   refine Rg.done ?_
   by_cases heq : a ≠ b
   ·skip
    rw [show decide (a ≠ b) = true from decide_eq_true heq]
    refine Wp.condT rfl ?_
    refine Wp.seq (Wp.region ?_)
    refine Rg.tm trivial rfl (t_assign rfl) rfl ?_
    refine Rg.done ?_
    refine Wp.ret ?_
    refine ⟨[_],⟨rfl,trivial⟩,⟨false,rfl,?_⟩,hx⟩
    refine ⟨fun h => (by cases h),fun e => ?_⟩
    subst e
    exact absurd (ha.symm.trans hb) heq
   ·skip
    rw [show decide (a ≠ b) = false from decide_eq_false (by simpa using heq)]
    refine Wp.condF rfl ?_
    refine Wp.skip ?_
    refine Wp.region ?_
    first | refine Rg.tm trivial rfl (t_addI rfl rfl (by omega)) rfl ?_ | refine Rg.tm trivial rfl (t_add rfl rfl) rfl ?_
    refine Rg.tm trivial rfl (t_move rfl) rfl ?_
    refine Rg.done ?_
    refine ⟨k + 1,by repeat (first | exact .nil | refine .cons rfl ?_),⟨hlt,fun j hj => ?_,hx⟩,by omega⟩
    rcases Nat.lt_succ_iff_lt_or_eq.1 hj with h | h
    ·exact hpre j h
    ·subst h
     rw [List.getElem?_eq_getElem hlt,List.getElem?_eq_getElem hlt2,ha,hb]
     congr 1
     simpa using heq
  ·skip
   refine Wp.seq (Wp.region ?_)
   first | refine Rg.tm trivial rfl (t_lssT rfl rfl (by omega)) rfl ?_ | refine Rg.tm trivial rfl (t_lssF rfl rfl (by omega)) rfl ?_ | refine Rg.tm trivial rfl (t_lss rfl rfl) rfl ?_
   refine Rg.done ?_
   refine Wp.seq ?_
   refine Wp.condF rfl ?_
   refine Wp.exit ?_
   refine Wp.seq (Wp.region ?_)
   refine Rg.tm trivial rfl (t_assign rfl) rfl ?_
   refine Rg.done ?_
   refine Wp.ret ?_
   refine ⟨[_],⟨rfl,trivial⟩,⟨true,rfl,fun _ => ?_,fun _ => rfl⟩,hx⟩
   refine List.ext_getElem? fun j => ?_
   by_cases hj : j < xs.length
   ·exact hpre j (by omega)
   ·rw [List.getElem?_eq_none (by omega),List.getElem?_eq_none (by omega)]
 ·skip
  refine Cl.enter Tryz.func23 rfl Tryz.ntmps23 rfl rfl ?_
  refine Wp.seq (Wp.region ?_)
  refine Rg.tm trivial rfl (t_assign rfl) rfl ?_
  refine Rg.done ?_
  refine Wp.seq ?_
  refine Wp.seq (Wp.region ?_)
  refine Rg.tm trivial rfl (t_move rfl) rfl ?_
  refine Rg.tm trivial rfl (t_lenC hx0 Tryz.underlying41 rfl) rfl ?_
  refine Rg.tm trivial rfl (t_move rfl) rfl ?_
  refine Rg.tm trivial rfl (t_lenC hy0 Tryz.underlying41 rfl) rfl ?_
  first | refine Rg.tm trivial rfl (t_neqT rfl rfl (by omega)) rfl ?_ | refine Rg.tm trivial rfl (t_neqF rfl rfl (by omega)) rfl ?_ | refine Rg.tm trivial rfl (t_neq rfl rfl) rfl ?_
  refine Rg.done ?_
  refine Wp.condT rfl ?_
  refine Wp.seq (Wp.region ?_)
  refine Rg.tm trivial rfl (t_assign rfl) rfl ?_
  refine Rg.done ?_
  refine Wp.ret ?_
  exact ⟨[_],⟨rfl,trivial⟩,⟨false,rfl,fun h => (by cases h),fun e => absurd (congrArg List.length e) hnm⟩,hx⟩
theorem equalM_ok {w : World} {v1 v2 : Value} {xs ys : List MD} (hx0 : SlC w v1 2 xs.length (encs mc xs)) (hy0 : SlC w v2 2 ys.length (encs mc ys)) (hn : xs.length ≤ 9223372036854775807) :
  Cl Tryz.prog 20 #[v1,v2] w (fun u w' => (∃ b : Bool,u = .bool b ∧ (b = true ↔ xs = ys)) ∧ Ext w w') := by
 have hx := Ext.refl w
 by_cases hnm : xs.length = ys.length
 ·skip
  refine Cl.enter Tryz.func20 rfl Tryz.ntmps20 rfl rfl ?_
  refine Wp.seq (Wp.region ?_)
  refine Rg.tm trivial rfl (t_assign rfl) rfl ?_
  refine Rg.done ?_
  refine Wp.seq ?_
  refine Wp.seq (Wp.region ?_)
  refine Rg.tm trivial rfl (t_move rfl) rfl ?_
  refine Rg.tm trivial rfl (t_lenC hx0 Tryz.underlying49 rfl) rfl ?_
  refine Rg.tm trivial rfl (t_move rfl) rfl ?_
  refine Rg.tm trivial rfl (t_lenC hy0 Tryz.underlying49 rfl) rfl ?_
  first | refine Rg.tm trivial rfl (t_neqT rfl rfl (by omega)) rfl ?_ | refine Rg.tm trivial rfl (t_neqF rfl rfl (by omega)) rfl ?_ | refine Rg.tm trivial rfl (t_neq rfl rfl) rfl ?_
  refine Rg.done ?_
  refine Wp.condF rfl ?_
  refine Wp.skip ?_
  refine Wp.seq ?_
  refine Wp.seq (Wp.region ?_)
  refine Rg.tm trivial rfl (t_move rfl) rfl ?_
  refine Rg.tm trivial rfl (t_lenC hx0 Tryz.underlying49 rfl) rfl ?_
  refine Rg.tm trivial rfl (t_move rfl) rfl ?_
  refine Rg.done ?_
  refine Wp.block ?_
  refine Wp.loop (ι := Nat) (fun k => [(0,v1),(1,v2),(12,.int .i64 xs.length),(13,.int .i64 k)])
   (fun k w' => k ≤ xs.length ∧ (∀ j (h : j < k),xs[j]? = ys[j]?) ∧ Ext w w') (fun k => xs.length - k) 0 (by repeat (first | exact .nil | refine .cons rfl ?_)) ⟨Nat.zero_le _,fun j h => by omega,hx⟩ ?_
  clear hx
  rintro k w3 ⟨hk,hpre,hx⟩
  by_cases hlt : k < xs.length
  ·have hlt2 : k < ys.length := by omega
   obtain ⟨a,ha⟩ : ∃ a,xs[k] = a := ⟨_,rfl⟩
   obtain ⟨b,hb⟩ : ∃ b,ys[k] = b := ⟨_,rfl⟩
   obtain ⟨a1,a2⟩ := a
   obtain ⟨b1,b2⟩ := b
   have hbool : (decide (a1 = b1) && decide (a2 = b2)) = decide ((a1,a2) = (b1,b2)) := by rw [Bool.eq_iff_iff]; simp
   refine Wp.seq (Wp.region ?_)
   first | refine Rg.tm trivial rfl (t_lssT rfl rfl (by omega)) rfl ?_ | refine Rg.tm trivial rfl (t_lssF rfl rfl (by omega)) rfl ?_ | refine Rg.tm trivial rfl (t_lss rfl rfl) rfl ?_
   refine Rg.done ?_
   refine Wp.seq ?_
   refine Wp.condT rfl ?_
   refine Wp.skip ?_
   refine Wp.seq ?_
   refine Wp.block ?_
   refine Wp.seq (Wp.region ?_)
   refine Rg.tm trivial rfl (t_move rfl) rfl ?_
   refine Rg.tm trivial rfl (t_assign rfl) rfl ?_
   refine Rg.done ?_
   refine Wp.seq (Wp.draw [0,1,2,3,4,5,6,7,8] [] mixed (by kernel_rfl) (by kernel_rfl) ?_)
   intro w1 hx1 _
   replace hx := hx.ext hx1
   refine Rg.tm trivial rfl (t_move rfl) rfl ?_
   refine Rg.tm trivial rfl (t_move rfl) rfl ?_
   refine Rg.ix hx0 trivial rfl rfl Tryz.underlying49 ty52 (by omega) rfl ?_
   intro bt18 ot18 ht18
   replace ht18 := ht18.ext hx
   rw [Int.toNat_natCast,encs_at mc_len xs k hlt,ha] at ht18
   refine Rg.tm trivial rfl (t_loadA rfl ht18 ty52) rfl ?_
   refine Rg.tm trivial rfl (t_move rfl) rfl ?_
   refine Rg.tm trivial rfl (t_move rfl) rfl ?_
   refine Rg.ix hy0 trivial rfl rfl Tryz.underlying49 ty52 (by omega) rfl ?_
   intro bt22 ot22 ht22
   replace ht22 := ht22.ext hx
   rw [Int.toNat_natCast,encs_at mc_len ys k hlt2,hb] at ht22
   refine Rg.tm trivial rfl (t_loadA rfl ht22 ty52) rfl ?_
   refine Rg.tm trivial rfl (t_neqAgg (by kernel_rfl) (eq52 a1 a2 b1 b2) rfl rfl) rfl ?_
   refine Rg.done ?_
   rw [hbool]
   by_cases heq : (a1,a2) ≠ (b1,b2)
   ·skip
    rw [show decide ((a1,a2) = (b1,b2)) = false from decide_eq_false heq]
    refine Wp.condT rfl ?_
    refine Wp.seq (Wp.region ?_)
    refine Rg.tm trivial rfl (t_assign rfl) rfl ?_
    refine Rg.done ?_
    refine Wp.ret ?_
    refine ⟨[_],⟨rfl,trivial⟩,⟨false,rfl,?_⟩,hx⟩
    refine ⟨fun h => (by cases h),fun e => ?_⟩
    subst e
    exact absurd (ha.symm.trans hb) heq
   ·skip
    rw [show decide ((a1,a2) = (b1,b2)) = true from decide_eq_true (by simpa using heq)]
    refine Wp.condF rfl ?_
    refine Wp.skip ?_
    refine Wp.region ?_
    first | refine Rg.tm trivial rfl (t_addI rfl rfl (by omega)) rfl ?_ | refine Rg.tm trivial rfl (t_add rfl rfl) rfl ?_
    refine Rg.tm trivial rfl (t_move rfl) rfl ?_
    refine Rg.done ?_
    refine ⟨k + 1,by repeat (first | exact .nil | refine .cons rfl ?_),⟨hlt,fun j hj => ?_,hx⟩,by omega⟩
    rcases Nat.lt_succ_iff_lt_or_eq.1 hj with h | h
    ·exact hpre j h
    ·subst h
     rw [List.getElem?_eq_getElem hlt,List.getElem?_eq_getElem hlt2,ha,hb]
     congr 1
     simpa using heq
  ·skip
   refine Wp.seq (Wp.region ?_)
   first | refine Rg.tm trivial rfl (t_lssT rfl rfl (by omega)) rfl ?_ | refine Rg.tm trivial rfl (t_lssF rfl rfl (by omega)) rfl ?_ | refine Rg.tm trivial rfl (t_lss rfl rfl) rfl ?_
   refine Rg.done ?_
   refine Wp.seq ?_
   refine Wp.condF rfl ?_
   refine Wp.exit ?_
   refine Wp.seq (Wp.region ?_)
   refine Rg.tm trivial rfl (t_assign rfl) rfl ?_
   refine Rg.done ?_
   refine Wp.ret ?_
   refine ⟨[_],⟨rfl,trivial⟩,⟨true,rfl,fun _ => ?_,fun _ => rfl⟩,hx⟩
   refine List.ext_getElem? fun j => ?_
   by_cases hj : j < xs.length
   ·exact hpre j (by omega)
   ·rw [List.getElem?_eq_none (by omega),List.getElem?_eq_none (by omega)]
 ·skip
  refine Cl.enter Tryz.func20 rfl Tryz.ntmps20 rfl rfl ?_
  refine Wp.seq (Wp.region ?_)
  refine Rg.tm trivial rfl (t_assign rfl) rfl ?_
  refine Rg.done ?_
  refine Wp.seq ?_
  refine Wp.seq (Wp.region ?_)
  refine Rg.tm trivial rfl (t_move rfl) rfl ?_
  refine Rg.tm trivial rfl (t_lenC hx0 Tryz.underlying49 rfl) rfl ?_
  refine Rg.tm trivial rfl (t_move rfl) rfl ?_
  refine Rg.tm trivial rfl (t_lenC hy0 Tryz.underlying49 rfl) rfl ?_
  first | refine Rg.tm trivial rfl (t_neqT rfl rfl (by omega)) rfl ?_ | refine Rg.tm trivial rfl (t_neqF rfl rfl (by omega)) rfl ?_ | refine Rg.tm trivial rfl (t_neq rfl rfl) rfl ?_
  refine Rg.done ?_
  refine Wp.condT rfl ?_
  refine Wp.seq (Wp.region ?_)
  refine Rg.tm trivial rfl (t_assign rfl) rfl ?_
  refine Rg.done ?_
  refine Wp.ret ?_
  exact ⟨[_],⟨rfl,trivial⟩,⟨false,rfl,fun h => (by cases h),fun e => absurd (congrArg List.length e) hnm⟩,hx⟩
theorem equalQ_ok {w : World} {v1 v2 : Value} {xs ys : List Rq} (hx0 : SlC w v1 5 xs.length (encs rc xs)) (hy0 : SlC w v2 5 ys.length (encs rc ys)) (hn : xs.length ≤ 9223372036854775807) :
  Cl Tryz.prog 21 #[v1,v2] w (fun u w' => (∃ b : Bool,u = .bool b ∧ (b = true ↔ xs = ys)) ∧ Ext w w') := by
 have hx := Ext.refl w
 by_cases hnm : xs.length = ys.length
 ·skip
  refine Cl.enter Tryz.func21 rfl Tryz.ntmps21 rfl rfl ?_
  refine Wp.seq (Wp.region ?_)
  refine Rg.tm trivial rfl (t_assign rfl) rfl ?_
  refine Rg.done ?_
  refine Wp.seq ?_
  refine Wp.seq (Wp.region ?_)
  refine Rg.tm trivial rfl (t_move rfl) rfl ?_
  refine Rg.tm trivial rfl (t_lenC hx0 Tryz.underlying38 rfl) rfl ?_
  refine Rg.tm trivial rfl (t_move rfl) rfl ?_
  refine Rg.tm trivial rfl (t_lenC hy0 Tryz.underlying38 rfl) rfl ?_
  first | refine Rg.tm trivial rfl (t_neqT rfl rfl (by omega)) rfl ?_ | refine Rg.tm trivial rfl (t_neqF rfl rfl (by omega)) rfl ?_ | refine Rg.tm trivial rfl (t_neq rfl rfl) rfl ?_
  refine Rg.done ?_
  refine Wp.condF rfl ?_
  refine Wp.skip ?_
  refine Wp.seq ?_
  refine Wp.seq (Wp.region ?_)
  refine Rg.tm trivial rfl (t_move rfl) rfl ?_
  refine Rg.tm trivial rfl (t_lenC hx0 Tryz.underlying38 rfl) rfl ?_
  refine Rg.tm trivial rfl (t_move rfl) rfl ?_
  refine Rg.done ?_
  refine Wp.block ?_
  refine Wp.loop (ι := Nat) (fun k => [(0,v1),(1,v2),(12,.int .i64 xs.length),(13,.int .i64 k)])
   (fun k w' => k ≤ xs.length ∧ (∀ j (h : j < k),xs[j]? = ys[j]?) ∧ Ext w w') (fun k => xs.length - k) 0 (by repeat (first | exact .nil | refine .cons rfl ?_)) ⟨Nat.zero_le _,fun j h => by omega,hx⟩ ?_
  clear hx
  rintro k w3 ⟨hk,hpre,hx⟩
  by_cases hlt : k < xs.length
  ·have hlt2 : k < ys.length := by omega
   obtain ⟨a,ha⟩ : ∃ a,xs[k] = a := ⟨_,rfl⟩
   obtain ⟨b,hb⟩ : ∃ b,ys[k] = b := ⟨_,rfl⟩
   obtain ⟨a1,a2,a3,a4,a5⟩ := a
   obtain ⟨b1,b2,b3,b4,b5⟩ := b
   have hiff : (a1 == b1 && (a2 == b2 && (a3 == b3 && (a4 == b4 && decide (a5 = b5))))) = true ↔ (⟨a1,a2,a3,a4,a5⟩ : Rq) = ⟨b1,b2,b3,b4,b5⟩ := by simp
   refine Wp.seq (Wp.region ?_)
   first | refine Rg.tm trivial rfl (t_lssT rfl rfl (by omega)) rfl ?_ | refine Rg.tm trivial rfl (t_lssF rfl rfl (by omega)) rfl ?_ | refine Rg.tm trivial rfl (t_lss rfl rfl) rfl ?_
   refine Rg.done ?_
   refine Wp.seq ?_
   refine Wp.condT rfl ?_
   refine Wp.skip ?_
   refine Wp.seq ?_
   refine Wp.block ?_
   refine Wp.seq (Wp.region ?_)
   refine Rg.tm trivial rfl (t_move rfl) rfl ?_
   refine Rg.tm trivial rfl (t_assign rfl) rfl ?_
   refine Rg.done ?_
   refine Wp.seq (Wp.draw [0,1,2,3,4,5,6,7,8] [] mixed (by kernel_rfl) (by kernel_rfl) ?_)
   intro w1 hx1 _
   replace hx := hx.ext hx1
   refine Rg.tm trivial rfl (t_move rfl) rfl ?_
   refine Rg.tm trivial rfl (t_move rfl) rfl ?_
   refine Rg.ix hx0 trivial rfl rfl Tryz.underlying38 ty27 (by omega) rfl ?_
   intro bt18 ot18 ht18
   replace ht18 := ht18.ext hx
   rw [Int.toNat_natCast,encs_at rc_len xs k hlt,ha] at ht18
   refine Rg.tm trivial rfl (t_loadA rfl ht18 ty27) rfl ?_
   refine Rg.tm trivial rfl (t_move rfl) rfl ?_
   refine Rg.tm trivial rfl (t_move rfl) rfl ?_
   refine Rg.ix hy0 trivial rfl rfl Tryz.underlying38 ty27 (by omega) rfl ?_
   intro bt22 ot22 ht22
   replace ht22 := ht22.ext hx
   rw [Int.toNat_natCast,encs_at rc_len ys k hlt2,hb] at ht22
   refine Rg.tm trivial rfl (t_loadA rfl ht22 ty27) rfl ?_
   refine Rg.tm trivial rfl (t_neqAgg (by kernel_rfl) (eq27 a1 a2 a3 a4 a5 b1 b2 b3 b4 b5) rfl rfl) rfl ?_
   refine Rg.done ?_
   by_cases heq : (⟨a1,a2,a3,a4,a5⟩ : Rq) ≠ ⟨b1,b2,b3,b4,b5⟩
   ·skip
    rw [show (a1 == b1 && (a2 == b2 && (a3 == b3 && (a4 == b4 && decide (a5 = b5))))) = false from by rw [← Bool.not_eq_true,hiff]; exact heq]
    refine Wp.condT rfl ?_
    refine Wp.seq (Wp.region ?_)
    refine Rg.tm trivial rfl (t_assign rfl) rfl ?_
    refine Rg.done ?_
    refine Wp.ret ?_
    refine ⟨[_],⟨rfl,trivial⟩,⟨false,rfl,?_⟩,hx⟩
    refine ⟨fun h => (by cases h),fun e => ?_⟩
    subst e
    exact absurd (ha.symm.trans hb) heq
   ·skip
    rw [show (a1 == b1 && (a2 == b2 && (a3 == b3 && (a4 == b4 && decide (a5 = b5))))) = true from by rw [hiff]; simpa using heq]
    refine Wp.condF rfl ?_
    refine Wp.skip ?_
    refine Wp.region ?_
    first | refine Rg.tm trivial rfl (t_addI rfl rfl (by omega)) rfl ?_ | refine Rg.tm trivial rfl (t_add rfl rfl) rfl ?_
    refine Rg.tm trivial rfl (t_move rfl) rfl ?_
    refine Rg.done ?_
    refine ⟨k + 1,by repeat (first | exact .nil | refine .cons rfl ?_),⟨hlt,fun j hj => ?_,hx⟩,by omega⟩
    rcases Nat.lt_succ_iff_lt_or_eq.1 hj with h | h
    ·exact hpre j h
    ·subst h
     rw [List.getElem?_eq_getElem hlt,List.getElem?_eq_getElem hlt2,ha,hb]
     congr 1
     simpa using heq
  ·skip
   refine Wp.seq (Wp.region ?_)
   first | refine Rg.tm trivial rfl (t_lssT rfl rfl (by omega)) rfl ?_ | refine Rg.tm trivial rfl (t_lssF rfl rfl (by omega)) rfl ?_ | refine Rg.tm trivial rfl (t_lss rfl rfl) rfl ?_
   refine Rg.done ?_
   refine Wp.seq ?_
   refine Wp.condF rfl ?_
   refine Wp.exit ?_
   refine Wp.seq (Wp.region ?_)
   refine Rg.tm trivial rfl (t_assign rfl) rfl ?_
   refine Rg.done ?_
   refine Wp.ret ?_
   refine ⟨[_],⟨rfl,trivial⟩,⟨true,rfl,fun _ => ?_,fun _ => rfl⟩,hx⟩
   refine List.ext_getElem? fun j => ?_
   by_cases hj : j < xs.length
   ·exact hpre j (by omega)
   ·rw [List.getElem?_eq_none (by omega),List.getElem?_eq_none (by omega)]
 ·skip
  refine Cl.enter Tryz.func21 rfl Tryz.ntmps21 rfl rfl ?_
  refine Wp.seq (Wp.region ?_)
  refine Rg.tm trivial rfl (t_assign rfl) rfl ?_
  refine Rg.done ?_
  refine Wp.seq ?_
  refine Wp.seq (Wp.region ?_)
  refine Rg.tm trivial rfl (t_move rfl) rfl ?_
  refine Rg.tm trivial rfl (t_lenC hx0 Tryz.underlying38 rfl) rfl ?_
  refine Rg.tm trivial rfl (t_move rfl) rfl ?_
  refine Rg.tm trivial rfl (t_lenC hy0 Tryz.underlying38 rfl) rfl ?_
  first | refine Rg.tm trivial rfl (t_neqT rfl rfl (by omega)) rfl ?_ | refine Rg.tm trivial rfl (t_neqF rfl rfl (by omega)) rfl ?_ | refine Rg.tm trivial rfl (t_neq rfl rfl) rfl ?_
  refine Rg.done ?_
  refine Wp.condT rfl ?_
  refine Wp.seq (Wp.region ?_)
  refine Rg.tm trivial rfl (t_assign rfl) rfl ?_
  refine Rg.done ?_
  refine Wp.ret ?_
  exact ⟨[_],⟨rfl,trivial⟩,⟨false,rfl,fun h => (by cases h),fun e => absurd (congrArg List.length e) hnm⟩,hx⟩
theorem mod_ok {w : World} {a : Int} {n : Nat} (hn : 0 < n) (hn2 : n ≤ 1000) : Cl Tryz.prog 16 #[.int .i64 a,.int .i64 n] w (fun u w' => (∃ k : Nat,u = .int .i64 k ∧ k < n ∧ (k : Int) = a % n) ∧ Ext w w') := by
 have hx := Ext.refl w
 have hm := Int.emod_nonneg a (show (n : Int) ≠ 0 by omega)
 have hm2 := Int.emod_lt_of_pos a (show (0 : Int) < n by omega)
 have ht : a.tmod n = a % n ∨ (a.tmod n < 0 ∧ a.tmod n + n = a % n) := by
  by_cases h0 : 0 ≤ a
  ·left; exact Int.tmod_eq_emod_of_nonneg h0
  ·have e1 := Int.tmod_eq_emod (a := a) (b := n)
   split at e1
   ·left; simpa using e1
   ·right
    have : ((n : Int).natAbs : Int) = n := by omega
    omega
 by_cases hneg : a.tmod n < 0
 ·skip
  refine Cl.enter Tryz.func16 rfl Tryz.ntmps16 rfl rfl ?_
  refine Wp.seq (Wp.region ?_)
  refine Rg.tm trivial rfl (t_assign rfl) rfl ?_
  refine Rg.done ?_
  refine Wp.seq (Wp.region ?_)
  refine Rg.tm trivial rfl (t_move rfl) rfl ?_
  refine Rg.tm trivial rfl (t_move rfl) rfl ?_
  refine Rg.tm trivial rfl (t_remI rfl rfl (by omega)) rfl ?_
  refine Rg.tm trivial rfl (t_assign rfl) rfl ?_
  refine Rg.done ?_
  refine Wp.seq ?_
  refine Wp.seq (Wp.region ?_)
  refine Rg.tm trivial rfl (t_move rfl) rfl ?_
  first | refine Rg.tm trivial rfl (t_lssT rfl rfl (by omega)) rfl ?_ | refine Rg.tm trivial rfl (t_lssF rfl rfl (by omega)) rfl ?_ | refine Rg.tm trivial rfl (t_lss rfl rfl) rfl ?_
  refine Rg.done ?_
  refine Wp.condT rfl ?_
  refine Wp.region ?_
  refine Rg.tm trivial rfl (t_move rfl) rfl ?_
  refine Rg.tm trivial rfl (t_move rfl) rfl ?_
  refine Rg.tm trivial rfl (t_addI rfl rfl (by omega)) rfl ?_
  refine Rg.tm trivial rfl (t_assign rfl) rfl ?_
  refine Rg.done ?_
  refine Wp.seq (Wp.region ?_)
  refine Rg.tm trivial rfl (t_move rfl) rfl ?_
  refine Rg.tm trivial rfl (t_assign rfl) rfl ?_
  refine Rg.done ?_
  refine Wp.ret ?_
  have e : a.tmod n + n = a % n := by
   rcases ht with h | h
   ·rw [h] at hneg; exact absurd hneg (by omega)
   ·exact h.2
  refine ⟨[_],⟨rfl,trivial⟩,⟨(a % n).toNat,?_,by omega,by omega⟩,hx⟩
  rw [Int.toNat_of_nonneg hm,e]; rfl
 ·skip
  refine Cl.enter Tryz.func16 rfl Tryz.ntmps16 rfl rfl ?_
  refine Wp.seq (Wp.region ?_)
  refine Rg.tm trivial rfl (t_assign rfl) rfl ?_
  refine Rg.done ?_
  refine Wp.seq (Wp.region ?_)
  refine Rg.tm trivial rfl (t_move rfl) rfl ?_
  refine Rg.tm trivial rfl (t_move rfl) rfl ?_
  refine Rg.tm trivial rfl (t_remI rfl rfl (by omega)) rfl ?_
  refine Rg.tm trivial rfl (t_assign rfl) rfl ?_
  refine Rg.done ?_
  refine Wp.seq ?_
  refine Wp.seq (Wp.region ?_)
  refine Rg.tm trivial rfl (t_move rfl) rfl ?_
  first | refine Rg.tm trivial rfl (t_lssT rfl rfl (by omega)) rfl ?_ | refine Rg.tm trivial rfl (t_lssF rfl rfl (by omega)) rfl ?_ | refine Rg.tm trivial rfl (t_lss rfl rfl) rfl ?_
  refine Rg.done ?_
  refine Wp.condF rfl ?_
  refine Wp.skip ?_
  refine Wp.seq (Wp.region ?_)
  refine Rg.tm trivial rfl (t_move rfl) rfl ?_
  refine Rg.tm trivial rfl (t_assign rfl) rfl ?_
  refine Rg.done ?_
  refine Wp.ret ?_
  have e : a.tmod n = a % n := by
   rcases ht with h | h
   ·rw [h] at hneg; exact h
   ·exact absurd h.1 hneg
  refine ⟨[_],⟨rfl,trivial⟩,⟨(a % n).toNat,?_,by omega,by omega⟩,hx⟩
  rw [Int.toNat_of_nonneg hm,e]; rfl
theorem cloneResp_ok {w : World} {v : Value} {n : Nat} {cs : List Value} (hs : SlC w v 6 n cs) (hone : ∀ u ∈ cs,u.oneCell' = true) (hlen : n ≤ 1000) :
  Cl Tryz.prog 18 #[v] w (fun u w' => w'.ownsRow w.heap.size 43 6 u n cs ∧ Ext w w') := by
 have hx := Ext.refl w
 obtain ⟨i43,hi43,hz43,hsi43,hby43⟩ := inf43
 refine Cl.enter Tryz.func18 rfl Tryz.ntmps18 rfl rfl ?_
 refine Wp.seq (Wp.region ?_)
 refine Rg.tm trivial rfl (t_assign rfl) rfl ?_
 refine Rg.done ?_
 refine Wp.seq (Wp.region ?_)
 refine Rg.tm trivial rfl (t_move rfl) rfl ?_
 refine Rg.wd trivial (w_appendC w.heap.size Tryz.underlying31 hi43 hz43 hsi43 hby43 rfl (by decide) rfl rfl (own_nil _ _ _ _) hs hone (by unfold maxLen; omega) (by omega) hx.le) rfl ?_
 rintro v2 wc ⟨ho2,hgr,_⟩
 replace hx := own_ext3 hx (own_nil _ _ 43 6) hgr
 rw [Nat.zero_add,List.nil_append] at ho2
 refine Rg.tm trivial rfl (t_assign rfl) rfl ?_
 refine Rg.done ?_
 refine Wp.ret ?_
 exact ⟨[_],⟨rfl,trivial⟩,ho2,hx⟩
end Go.Proofs.YtliofpegbcegiaaGreatDoor
