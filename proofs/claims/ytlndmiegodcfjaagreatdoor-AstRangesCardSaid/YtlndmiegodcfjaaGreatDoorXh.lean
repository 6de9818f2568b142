/- Library contracts of strconv.Atoi, laid by the kit own shelf. -/
import Derived.Shelf.Strconv.AtoiAll
import Derived.Ground.Names2Prog
import Derived.Test.YtlndmiegodcfjaaGreatDoorProg
import Derived.Test.YtlndmiegodcfjaaGreatDoorXg
import Derived.Sort.Grow
import Derived.Deep.Draws
set_option linter.unusedVariables false
set_option linter.unusedSimpArgs false
namespace Go.Proofs
open Go.Shelf
def Tryz.laysC172_ren : Go.Shelf.Ren := ⟨fun | 172 => 136 | 244 => 177 | 245 => 178 | 247 => 203 | 279 => 204 | 280 => 205 | 281 => 206 | 282 => 207 | 287 => 234 | 316 => 235 | 171 => 117 | 205 => 236 | 321 => 259 | 322 => 260 | 243 => 151 | 246 => 187 | 283 => 219 | 284 => 220 | 285 => 221 | 286 => 222 | 129 => 98 | 317 => 244 | 318 => 245 | 319 => 246 | 320 => 247 | 337 => 261 | 338 => 262 | n => n,fun | 9 => 9 | 3 => 3 | 75 => 124 | 76 => 126 | 4 => 4 | 5 => 5 | 167 => 222 | 37 => 119 | 0 => 0 | 85 => 223 | 2 => 2 | 168 => 225 | 53 => 150 | 175 => 253 | 46 => 88 | 210 => 256 | 127 => 164 | 145 => 270 | 143 => 268 | 21 => 21 | 171 => 248 | 173 => 250 | 212 => 264 | 51 => 97 | 20 => 20 | 213 => 265 | 232 => 271 | 233 => 272 | 80 => 128 | n => n,fun | 15 => 3 | 16 => 4 | 17 => 5 | 18 => 6 | 19 => 7 | n => n⟩
theorem Tryz.laysC172 : Go.Proofs.LaysC.n172 Tryz.prog Tryz.laysC172_ren := {
 mixed := by kernel_rfl
 f129 := Tryz.func98.trans (congrArg some (by kernel_rfl))
 f171 := Tryz.func117.trans (congrArg some (by kernel_rfl))
 f172 := Tryz.func136.trans (congrArg some (by kernel_rfl))
 f205 := Tryz.func236.trans (congrArg some (by kernel_rfl))
 f243 := Tryz.func151.trans (congrArg some (by kernel_rfl))
 f244 := Tryz.func177.trans (congrArg some (by kernel_rfl))
 f245 := Tryz.func178.trans (congrArg some (by kernel_rfl))
 f246 := Tryz.func187.trans (congrArg some (by kernel_rfl))
 f247 := Tryz.func203.trans (congrArg some (by kernel_rfl))
 f279 := Tryz.func204.trans (congrArg some (by kernel_rfl))
 f280 := Tryz.func205.trans (congrArg some (by kernel_rfl))
 f281 := Tryz.func206.trans (congrArg some (by kernel_rfl))
 f282 := Tryz.func207.trans (congrArg some (by kernel_rfl))
 f283 := Tryz.func219.trans (congrArg some (by kernel_rfl))
 f284 := Tryz.func220.trans (congrArg some (by kernel_rfl))
 f285 := Tryz.func221.trans (congrArg some (by kernel_rfl))
 f286 := Tryz.func222.trans (congrArg some (by kernel_rfl))
 f287 := Tryz.func234.trans (congrArg some (by kernel_rfl))
 f316 := Tryz.func235.trans (congrArg some (by kernel_rfl))
 f317 := Tryz.func244.trans (congrArg some (by kernel_rfl))
 f318 := Tryz.func245.trans (congrArg some (by kernel_rfl))
 f319 := Tryz.func246.trans (congrArg some (by kernel_rfl))
 f320 := Tryz.func247.trans (congrArg some (by kernel_rfl))
 f321 := Tryz.func259.trans (congrArg some (by kernel_rfl))
 f322 := Tryz.func260.trans (congrArg some (by kernel_rfl))
 f337 := Tryz.func261.trans (congrArg some (by kernel_rfl))
 f338 := Tryz.func262.trans (congrArg some (by kernel_rfl))
 t0 := Tryz.underlying0
 a0 := Tryz.isAgg0
 z0 := Tryz.sizeOf0
 v0 := Tryz.zeroValue0
 t2 := Tryz.underlying2
 a2 := Tryz.isAgg2
 z2 := Tryz.sizeOf2
 v2 := Tryz.zeroValue2
 t3 := Tryz.underlying3
 a3 := Tryz.isAgg3
 z3 := Tryz.sizeOf3
 v3 := Tryz.zeroValue3
 t4 := Tryz.underlying4
 a4 := Tryz.isAgg4
 z4 := Tryz.sizeOf4
 v4 := Tryz.zeroValue4
 t5 := Tryz.underlying5
 a5 := Tryz.isAgg5
 z5 := Tryz.sizeOf5
 v5 := Tryz.zeroValue5
 t9 := Tryz.underlying9
 a9 := Tryz.isAgg9
 z9 := Tryz.sizeOf9
 v9 := Tryz.zeroValue9
 t20 := Tryz.underlying20
 a20 := Tryz.isAgg20
 z20 := Tryz.sizeOf20
 v20 := Tryz.zeroValue20
 t21 := Tryz.underlying21
 a21 := Tryz.isAgg21
 z21 := Tryz.sizeOf21
 v21 := Tryz.zeroValue21
 t37 := Tryz.underlying119
 a37 := Tryz.isAgg119
 z37 := Tryz.sizeOf119
 v37 := Tryz.zeroValue119
 t46 := Tryz.underlying88
 a46 := Tryz.isAgg88
 z46 := Tryz.sizeOf88
 v46 := Tryz.zeroValue88
 t51 := Tryz.underlying97
 a51 := Tryz.isAgg97
 z51 := Tryz.sizeOf97
 v51 := Tryz.zeroValue97
 t53 := Tryz.underlying150
 a53 := Tryz.isAgg150
 z53 := Tryz.sizeOf150
 v53 := Tryz.zeroValue150
 t75 := Tryz.underlying124
 a75 := Tryz.isAgg124
 z75 := Tryz.sizeOf124
 v75 := Tryz.zeroValue124
 t76 := Tryz.underlying126
 a76 := Tryz.isAgg126
 z76 := Tryz.sizeOf126
 v76 := Tryz.zeroValue126
 t85 := Tryz.underlying223
 a85 := Tryz.isAgg223
 z85 := Tryz.sizeOf223
 v85 := Tryz.zeroValue223
 t127 := Tryz.underlying164
 a127 := Tryz.isAgg164
 z127 := Tryz.sizeOf164
 v127 := Tryz.zeroValue164
 t143 := Tryz.underlying268
 a143 := Tryz.isAgg268
 z143 := Tryz.sizeOf268
 v143 := Tryz.zeroValue268
 t145 := Tryz.underlying270
 a145 := Tryz.isAgg270
 z145 := Tryz.sizeOf270
 v145 := Tryz.zeroValue270
 t167 := Tryz.underlying222
 a167 := Tryz.isAgg222
 z167 := Tryz.sizeOf222
 v167 := Tryz.zeroValue222
 t168 := Tryz.underlying225
 a168 := Tryz.isAgg225
 z168 := Tryz.sizeOf225
 v168 := Tryz.zeroValue225
 t171 := Tryz.underlying248
 a171 := Tryz.isAgg248
 z171 := Tryz.sizeOf248
 v171 := Tryz.zeroValue248
 t173 := Tryz.underlying250
 a173 := Tryz.isAgg250
 z173 := Tryz.sizeOf250
 v173 := Tryz.zeroValue250
 t175 := Tryz.underlying253
 a175 := Tryz.isAgg253
 z175 := Tryz.sizeOf253
 v175 := Tryz.zeroValue253
 t210 := Tryz.underlying256
 a210 := Tryz.isAgg256
 z210 := Tryz.sizeOf256
 v210 := Tryz.zeroValue256
 t212 := Tryz.underlying264
 a212 := Tryz.isAgg264
 z212 := Tryz.sizeOf264
 v212 := Tryz.zeroValue264
 t213 := Tryz.underlying265
 a213 := Tryz.isAgg265
 z213 := Tryz.sizeOf265
 t232 := Tryz.underlying271
 a232 := Tryz.isAgg271
 z232 := Tryz.sizeOf271
 v232 := Tryz.zeroValue271
 t233 := Tryz.underlying272
 a233 := Tryz.isAgg272
 z233 := Tryz.sizeOf272
 v233 := Tryz.zeroValue272
 g15 := by kernel_rfl
 g16 := by kernel_rfl
 g17 := by kernel_rfl
 g18 := by kernel_rfl
 g19 := by kernel_rfl
 t80 := Tryz.underlying128
 a80 := Tryz.isAgg128
 z80 := Tryz.sizeOf128
 v80 := Tryz.zeroValue128
 i0 := by kernel_rfl
 i2 := by kernel_rfl
 i3 := by kernel_rfl
 i4 := by kernel_rfl
 i5 := by kernel_rfl
 i9 := by kernel_rfl
 i20 := by kernel_rfl
 i21 := by kernel_rfl
 i37 := by kernel_rfl
 i46 := by kernel_rfl
 i51 := by kernel_rfl
 i53 := by kernel_rfl
 i75 := by kernel_rfl
 i76 := by kernel_rfl
 i80 := by kernel_rfl
 i85 := by kernel_rfl
 i127 := by kernel_rfl
 i143 := by kernel_rfl
 i145 := by kernel_rfl
 i167 := by kernel_rfl
 i168 := by kernel_rfl
 i171 := by kernel_rfl
 i173 := by kernel_rfl
 i175 := by kernel_rfl
 i210 := by kernel_rfl
 i212 := by kernel_rfl
 i232 := by kernel_rfl
 i233 := by kernel_rfl
 m15 := by kernel_rfl
 m16 := by kernel_rfl
 m17 := by kernel_rfl
 m18 := by kernel_rfl
 m19 := by kernel_rfl
 c0 := by kernel_rfl
 c2 := by kernel_rfl
 c3 := by kernel_rfl
 c4 := by kernel_rfl
 c5 := by kernel_rfl
 c9 := by kernel_rfl
 c20 := by kernel_rfl
 c21 := by kernel_rfl
 c37 := by kernel_rfl
 c46 := by kernel_rfl
 c51 := by kernel_rfl
 c53 := by kernel_rfl
 c75 := by kernel_rfl
 c76 := by kernel_rfl
 c80 := by kernel_rfl
 c85 := by kernel_rfl
 c127 := by kernel_rfl
 c143 := by kernel_rfl
 c145 := by kernel_rfl
 c167 := by kernel_rfl
 c168 := by kernel_rfl
 c171 := by kernel_rfl
 c173 := by kernel_rfl
 c175 := by kernel_rfl
 c210 := by kernel_rfl
 c212 := by kernel_rfl
 c213 := by kernel_rfl
 c232 := by kernel_rfl
 c233 := by kernel_rfl }
open Go.RowKit in
theorem Tryz.strconv_Atoi_ok (s : ByteArray) (hmax : s.size ≤ 9223372036854775806) (v : Int) (h : Lib.atoiAll s.data.toList = .ok v) (w : World) :
  Calls Tryz.prog 136 #[.string s] w fun e w' => e = .returned (.tuple #[.int .i64 v,.nilIface]) ∧ (w' = w ∨ ∃ t,w' = Lib.bytesWorld w 5 t) := Any.strconv_Atoi_ok Tryz.laysC172 s hmax v h w
open Go.RowKit in
theorem Tryz.strconv_Atoi_range (s : ByteArray) (hlim : s.size ≤ 281474976710656) (h : Lib.atoiAll s.data.toList = .range) (ev : Value) (w : World) (hv : w.cell? ⟨4,0,none⟩ = some ev) (hev : ev = .nilIface ∨ ∃ te pe,ev = .iface te pe) :
  Calls Tryz.prog 136 #[.string s] w fun e w' => ∃ N,e = .returned (.tuple #[.int .i64 (Lib.atoiSat s.data.toList),.iface 225 (.pointer (some ⟨N,0,none⟩))]) ∧ w.heap.size ≤ N ∧ w'.heap[N]? = some (.cells #[.string ⟨#[65,116,111,105]⟩,.string s,ev] 256 (0,0)) ∧ Below w.heap.size w w' := Any.strconv_Atoi_range Tryz.laysC172 s hlim h ev w hv hev
end Go.Proofs
namespace Go.Proofs.YtlndmiegodcfjaaGreatDoor.Ast
set_option maxRecDepth 20000
open Go.Gx Go.RowKit Go.Lib
open Lexi (Asc)
open Par
def Er (w : World) : Prop := ∃ te pe,w.cell? ⟨4,0,none⟩ = some (.iface te pe)
theorem Er.bw {F : Fs} {w w' : World} (h : Er w) (k : Bw F w w') (h4 : F 4) : Er w' := by
 obtain ⟨te,pe,h⟩ := h;exact ⟨te,pe,by rw [World.cell?_of_block (k.block 4 h4)]; exact h⟩
section
variable {n : Nat} {L : Env} {w : World} {d : Option Tmp} {ty : TypeId} {pos : String} {af : Array Edge} {g : Option (Nat × Bool)}
theorem Ji {t t' u : TypeId} {x : Operand} {v : Value} (hu : Tryz.prog.underlying t = some (.interface (Tryz.prog.methodsAt t))) (hx : cF L x = some (.iface u v)) : Tm Tryz.prog n ⟨d,.binOp .neq t x (.const .nilIface) t',ty,pos,af,g⟩ L w (.bool true) := fun a ha w' _ => by
 have hy : a.eval (.const .nilIface) = .nilIface := rfl;simp [execOp,ha.eval hx,hy,eqGuard_at_iface,run_neq_held_nil w' t u v hu]
theorem Hf {t t' : TypeId} {x : Operand} (hu : Tryz.prog.underlying t = some (.interface (Tryz.prog.methodsAt t))) (hx : cF L x = some .nilIface) : Tm Tryz.prog n ⟨d,.binOp .neq t x (.const .nilIface) t',ty,pos,af,g⟩ L w (.bool false) := fun a ha w' _ => by
 have hy : a.eval (.const .nilIface) = .nilIface := rfl;simp [execOp,ha.eval hx,hy,eqGuard_nil_constR,run_neq_nil_nil w' t hu]
end
theorem zI {w : World} {x : ByteArray} (h0 : 0 < x.size) (hd : ∀ b ∈ x.data.toList,48 ≤ b.toNat ∧ b.toNat ≤ 57) (hl : x.size ≤ 1000000) (hn : Bl x ≤ 9223372036854775807) :
  Cl Tryz.prog 136 #[.string x] w (fun u w' => u = .tuple #[.int .i64 (Bl x),.nilIface] ∧ Ext w w') := by
 have h := oP h0 hd;rw [if_pos hn] at h;refine Calls.mono (Tryz.strconv_Atoi_ok x (by omega) _ h w) fun e w' ⟨he,hw⟩ => ⟨_,he,rfl,?_⟩
 rcases hw with rfl | ⟨t,rfl⟩
 ·exact Ext.refl _
 ·exact Lib.below_freeze ((Below.drew (Below.refl w.heap.size w)).alloc (Nat.le_refl _) _) (Nat.le_refl _) _
theorem F8 {w : World} {x : ByteArray} (h0 : 0 < x.size) (hd : ∀ b ∈ x.data.toList,48 ≤ b.toNat ∧ b.toNat ≤ 57) (hl : x.size ≤ 1000000) (hn : ¬ Bl x ≤ 9223372036854775807) (hE : Er w) :
  Cl Tryz.prog 136 #[.string x] w (fun u w' => (∃ v t p,u = .tuple #[.int .i64 v,.iface t p]) ∧ Ext w w') := by
 have h := oP h0 hd;rw [if_neg hn] at h;obtain ⟨te,pe,hv⟩ := hE;exact Calls.mono (Tryz.strconv_Atoi_range x (by omega) h _ w hv (.inr ⟨te,pe,rfl⟩)) fun e w' ⟨N,he,_,_,hb⟩ => ⟨_,he,⟨_,_,_,rfl⟩,hb⟩
theorem yA {F : Fs} {w : World} {b : Nat} {src x : ByteArray} {s e : Int} {ds : List Dg} (hb : Bd F w b src e ds) (hE : Er w) (hl : ds.length < 1000000) (h0 : 0 < x.size) (hd : ∀ b ∈ x.data.toList,48 ≤ b.toNat ∧ b.toNat ≤ 57) (hx0 : x.size ≤ 1000000) :
  Cl Tryz.prog 86 #[.pointer (some ⟨b,0,none⟩),.string x,.int .i64 s] w (fun u w' => u = .int .i64 (zE x) ∧ Bd F w' b src e (ds ++ (if Bl x ≤ 2147483647 then [] else [(4,s,e)])) ∧ Bw F w w') := by
 have hB := Bw.refl F w;unfold zE
 by_cases h1 : Bl x ≤ 2147483647
 ·rw [if_pos h1,if_pos h1,List.append_nil]
  refine Cl.enter Tryz.func86 rfl Tryz.ntmps86 rfl rfl (.sr (.a2 rfl (.done (.sr (.m2 rfl ?_)))));refine Rg.wd trivial (aC Tryz.call136 rfl (zI h0 hd hx0 (by omega))) rfl ?_;rintro _ w1 ⟨rfl,hx1⟩;replace hB := hB.trans (Bw.of hx1 hb.und);replace hb := hb.ext hx1;refine .m2 rfl (.t2 (cA rfl rfl) (.t2 (cA rfl rfl) (.a2 rfl (.a2 rfl (.done (.seq (.sr (.m2 rfl ?_))))))));refine .t2 (Hf (by kernel_rfl) rfl) ?_;refine .m2 rfl ?_
  first | refine .gd (aP rfl) rfl ?_ | refine .so rfl rfl ?_
  refine .g2 (eN rfl rfl (by omega)) ?_
  first | refine .tq (aJ rfl rfl) rfl ?_ | refine .tq (aN rfl rfl) rfl ?_
  refine .done (.condF rfl (Wp.skip (.sr (.m2 rfl (.a2 rfl (.done (Wp.ret ?_)))))));exact ⟨[_],⟨rfl,trivial⟩,rfl,hb,hB⟩
 ·rw [if_neg h1,if_neg h1]
  by_cases h2 : Bl x ≤ 9223372036854775807
  ·skip
   refine Cl.enter Tryz.func86 rfl Tryz.ntmps86 rfl rfl (.sr (.a2 rfl (.done (.sr (.m2 rfl ?_)))));refine Rg.wd trivial (aC Tryz.call136 rfl (zI h0 hd hx0 (by omega))) rfl ?_;rintro _ w1 ⟨rfl,hx1⟩;replace hB := hB.trans (Bw.of hx1 hb.und);replace hb := hb.ext hx1;refine .m2 rfl (.t2 (cA rfl rfl) (.t2 (cA rfl rfl) (.a2 rfl (.a2 rfl (.done (.seq (.sr (.m2 rfl ?_))))))));refine .t2 (Hf (by kernel_rfl) rfl) ?_;refine .m2 rfl ?_
   first | refine .gd (aP rfl) rfl ?_ | refine .so rfl rfl ?_
   refine .g2 (gB rfl rfl (by omega)) ?_
   first | refine .tq (aJ rfl rfl) rfl ?_ | refine .tq (aN rfl rfl) rfl ?_
   refine .done (.condT rfl ?_);have hbv := hb.choose_spec.var;refine .sr (.m2 rfl (.m2 rfl (.m2 rfl (.t2 (aF rfl) (.t2 (aA cQ rfl) (.t2 (aB bA rfl (hbv.g 1 rfl)) (Rg.wd trivial (aC Tryz.call84 rfl (gJ hb hl)) rfl ?_)))))));rintro _ w2 ⟨hb2,hB2⟩;replace hB := hB.trans hB2;refine .done (.sr (.a2 rfl (.done (Wp.ret ?_))));exact ⟨[_],⟨rfl,trivial⟩,rfl,hb2,hB⟩
  ·skip
   refine Cl.enter Tryz.func86 rfl Tryz.ntmps86 rfl rfl (.sr (.a2 rfl (.done (.sr (.m2 rfl (Rg.wd trivial (aC Tryz.call136 rfl (F8 h0 hd hx0 h2 hE)) rfl ?_))))));rintro _ w1 ⟨⟨av,at_,ap,rfl⟩,hx1⟩;replace hB := hB.trans (Bw.of hx1 hb.und);replace hb := hb.ext hx1;refine .m2 rfl (.t2 (cA rfl rfl) (.t2 (cA rfl rfl) (.a2 rfl (.a2 rfl (.done (.seq (.sr (.m2 rfl ?_))))))));refine .t2 (Ji (by kernel_rfl) rfl) ?_;refine .m2 rfl (.so rfl rfl (.so rfl rfl ?_))
   first | refine .tq (aJ rfl rfl) rfl ?_ | refine .tq (aN rfl rfl) rfl ?_
   refine .done (.condT rfl ?_);have hbv := hb.choose_spec.var;refine .sr (.m2 rfl (.m2 rfl (.m2 rfl (.t2 (aF rfl) (.t2 (aA cQ rfl) (.t2 (aB bA rfl (hbv.g 1 rfl)) (Rg.wd trivial (aC Tryz.call84 rfl (gJ hb hl)) rfl ?_)))))));rintro _ w2 ⟨hb2,hB2⟩;replace hB := hB.trans hB2;refine .done (.sr (.a2 rfl (.done (Wp.ret ?_))));exact ⟨[_],⟨rfl,trivial⟩,rfl,hb2,hB⟩
theorem uC {F : Fs} {a b c : World} (h : Bw F a b) (x : Ext b c) (hU : Und F a.heap.size) : Bw F a c := h.trans (Bw.of x fun z hz => Nat.lt_of_lt_of_le (hU z hz) h.size)
section
variable {F G : Fs} {w w' : World} {b k p : Nat} {src x : ByteArray} {off off' s e : Int} {ds ds' : List Dg} {h h' : Hd} {cv dv : Value}
theorem Tk.sub (T : Tk G w b k src off ds h cv) (hs : ∀ z,F z → G z) : Tk F w b k src off ds h cv := ⟨T.bd.sub fun z hz => hz.imp (hs z) id,T.var,fun hf => T.nk (hs k hf)⟩
theorem Tk.add (T : Tk F w b k src off ds h cv) (hx : Ext w w') (h1 : w.heap.size ≤ p) (h2 : p < w'.heap.size) : Tk (fun z => F z ∨ z = p) w' b k src off ds h cv :=
 ⟨(T.bd.add hx h1 h2).sub fun z hz => hz.elim (fun hz => hz.elim (fun hz => .inl (.inl hz)) .inr) fun hz => .inl (.inr hz),T.var.ext hx,fun hz => hz.elim T.nk fun e => by have := T.var.lt; omega⟩
theorem Tk.moved (T : Tk F w b k src off ds h cv) (hd : BdV (fun z => F z ∨ z = k) w b src off ds dv) (hu : Upd b w w') (hv : Var w' b [.string src,.int .i64 off',dv] 59) : Tk F w' b k src off' ds h cv :=
 ⟨⟨dv,fun z hz => by rw [hu.size]; exact hd.und z hz,hv,fK hd.row (Bw.upd (F := fun z => z ≠ b) hu fun hh => hh rfl) (fun z hz e => fU hd.row hd.var (by decide) (by rw [← e,hz]; simp)),hd.nb,hd.nd⟩,T.var.upd hu (Var.ne T.var hd.var (by decide)),T.nk⟩
end
theorem Dn {F : Fs} {w : World} {b k : Nat} {src x : ByteArray} {off kk : Int} {ds : List Dg} {h : Hd} {cv tv : Value} (T : Tk F w b k src off ds h cv) (hE : Er w) (h4 : F 4) (hl : ds.length + x.size + 1 < 1000000) (hxz : x.size ≤ 1000000) (ho : 0 ≤ off ∧ off ≤ 100000) (ht : rT kk x) (hk : 100 ≤ kk) :
  Cl Tryz.prog 38 #[.pointer (some ⟨b,0,none⟩),.pointer (some ⟨k,0,none⟩),.agg #[.int .i64 kk,.string x,tv]] w (fun u w' => Tk F w' b k src (jD h off ds kk x).2.1 (jD h off ds kk x).2.2 (jD h off ds kk x).1 cv ∧ Bw F w w') := by
 obtain ⟨e,he⟩ : ∃ e : Int,off + x.size = e := ⟨_,rfl⟩;unfold jD;simp only [he]
 by_cases n1 : kk = 101 ∨ kk = 102
 ·rw [if_pos n1]
  rcases n1 with n1 | n1
  ·skip
   refine Cl.enter Tryz.func38 rfl Tryz.ntmps38 rfl rfl (.sr (Rg.wd trivial (aW (cs := [.int .i64 kk,.string x,tv]) rfl rfl) rfl ?_));rintro _ w1 ⟨p5,rfl,q5,hx1,hv5⟩;have hU : Und F w.heap.size := T.und;have hB := Bw.of hx1 hU;have hE1 := hE.bw hB h4;replace T := T.add hx1 (Nat.le_of_eq q5.symm) hv5.lt;obtain ⟨F1,a⟩ : ∃ F1 : Fs,(fun z => F z ∨ z = p5) = F1 := ⟨_,rfl⟩;have f5 : F1 p5 := by rw [← a]; exact .inr rfl
   have fs : ∀ z,F z → F1 z := fun z hz => by rw [← a]; exact .inl hz
   rw [a] at T;clear a;refine .done ?_;obtain ⟨dv,hd⟩ := T.bd;refine .sr (.m2 rfl (.t2 (aF rfl) (.t2 (aA cQ rfl) (.t2 (aB bA rfl (hd.var.g 1 rfl)) (.a2 rfl (.done ?_))))));refine Wp.seq (Wp.draw [0,1,2,3,4,5,6,7,8,9,10] [0] mixed (by kernel_rfl) (by kernel_rfl) ?_);intro w1 hx1 _;have hxd := hx1;replace hB := uC hB hxd hU;replace T := T.ext hxd;replace hd := hd.ext hxd;replace hv5 := hv5.ext hxd;refine .m2 rfl (.t2 (aF rfl) (.t2 (aA cQ rfl) (.t2 (aB bA rfl (hd.var.g 1 rfl)) (.t2 (aA gL rfl) (.t2 (aB hY rfl (hv5.g 1 rfl)) (.t2 (cS Tryz.underlying9 rfl) ?_))))))
   first | refine .tq (bC rfl rfl (by omega)) rfl ?_ | refine .tq (bV rfl rfl) rfl ?_
   rw [he];refine .t2 (aF rfl) (.t2 (aA cQ rfl) ?_);refine Rg.wnB trivial rfl (cG hd.var bA rfl rfl rfl rfl rfl) (by rfl) ?_;rintro _ w3 ⟨hu3,hv3⟩;simp only [List.set] at hv3;replace hB := hB.trans (Bw.upd hu3 fun hf => hd.nb (.inl (fs _ hf)));replace hv5 := hv5.upd hu3 (Var.ne hv5 hd.var (by decide));replace T := T.moved hd hu3 hv3;clear hd hv3 hu3;refine .done (.seq ?_);have hE3 := hE.bw hB h4;refine .sr (.t2 (aA iZ rfl) (.t2 (aB bA rfl (hv5.g 0 rfl)) (.done (Wp.block (.seq (.sr ?_))))))
   first | refine .tq (aS rfl rfl (by omega)) rfl ?_ | refine .tq (aR rfl rfl (by omega)) rfl ?_ | refine .tq (bM rfl rfl) rfl ?_
   refine .a2 rfl (.done (.condT rfl (Wp.skip (.condT rfl (Wp.ret ?_)))));exact ⟨[],trivial,T.sub fs,hB⟩
  ·skip
   refine Cl.enter Tryz.func38 rfl Tryz.ntmps38 rfl rfl (.sr (Rg.wd trivial (aW (cs := [.int .i64 kk,.string x,tv]) rfl rfl) rfl ?_));rintro _ w1 ⟨p5,rfl,q5,hx1,hv5⟩;have hU : Und F w.heap.size := T.und;have hB := Bw.of hx1 hU;have hE1 := hE.bw hB h4;replace T := T.add hx1 (Nat.le_of_eq q5.symm) hv5.lt;obtain ⟨F1,a⟩ : ∃ F1 : Fs,(fun z => F z ∨ z = p5) = F1 := ⟨_,rfl⟩;have f5 : F1 p5 := by rw [← a]; exact .inr rfl
   have fs : ∀ z,F z → F1 z := fun z hz => by rw [← a]; exact .inl hz
   rw [a] at T;clear a;refine .done ?_;obtain ⟨dv,hd⟩ := T.bd;refine .sr (.m2 rfl (.t2 (aF rfl) (.t2 (aA cQ rfl) (.t2 (aB bA rfl (hd.var.g 1 rfl)) (.a2 rfl (.done ?_))))));refine Wp.seq (Wp.draw [0,1,2,3,4,5,6,7,8,9,10] [0] mixed (by kernel_rfl) (by kernel_rfl) ?_);intro w1 hx1 _;have hxd := hx1;replace hB := uC hB hxd hU;replace T := T.ext hxd;replace hd := hd.ext hxd;replace hv5 := hv5.ext hxd;refine .m2 rfl (.t2 (aF rfl) (.t2 (aA cQ rfl) (.t2 (aB bA rfl (hd.var.g 1 rfl)) (.t2 (aA gL rfl) (.t2 (aB hY rfl (hv5.g 1 rfl)) (.t2 (cS Tryz.underlying9 rfl) ?_))))))
   first | refine .tq (bC rfl rfl (by omega)) rfl ?_ | refine .tq (bV rfl rfl) rfl ?_
   rw [he];refine .t2 (aF rfl) (.t2 (aA cQ rfl) ?_);refine Rg.wnB trivial rfl (cG hd.var bA rfl rfl rfl rfl rfl) (by rfl) ?_;rintro _ w3 ⟨hu3,hv3⟩;simp only [List.set] at hv3;replace hB := hB.trans (Bw.upd hu3 fun hf => hd.nb (.inl (fs _ hf)));replace hv5 := hv5.upd hu3 (Var.ne hv5 hd.var (by decide));replace T := T.moved hd hu3 hv3;clear hd hv3 hu3;refine .done (.seq ?_);have hE3 := hE.bw hB h4;refine .sr (.t2 (aA iZ rfl) (.t2 (aB bA rfl (hv5.g 0 rfl)) (.done (Wp.block (.seq (.sr ?_))))))
   first | refine .tq (aS rfl rfl (by omega)) rfl ?_ | refine .tq (aR rfl rfl (by omega)) rfl ?_ | refine .tq (bM rfl rfl) rfl ?_
   refine .a2 rfl (.done (.condF rfl (Wp.region ?_)))
   first | refine .tq (aS rfl rfl (by omega)) rfl ?_ | refine .tq (aR rfl rfl (by omega)) rfl ?_ | refine .tq (bM rfl rfl) rfl ?_
   refine .a2 rfl (.done (.condT rfl (Wp.ret ?_)));exact ⟨[],trivial,T.sub fs,hB⟩
 rw [if_neg n1];have m1 : ¬ kk = 101 := fun q => n1 (.inl q);have m2 : ¬ kk = 102 := fun q => n1 (.inr q);clear n1
 by_cases n2 : kk = 108
 ·rw [if_pos n2]
  by_cases n3 : x = fS
  ·rw [if_pos n3]
   have n3e : x = ⟨#[]⟩ := n3;refine Cl.enter Tryz.func38 rfl Tryz.ntmps38 rfl rfl (.sr (Rg.wd trivial (aW (cs := [.int .i64 kk,.string x,tv]) rfl rfl) rfl ?_));rintro _ w1 ⟨p5,rfl,q5,hx1,hv5⟩;have hU : Und F w.heap.size := T.und;have hB := Bw.of hx1 hU;have hE1 := hE.bw hB h4;replace T := T.add hx1 (Nat.le_of_eq q5.symm) hv5.lt;obtain ⟨F1,a⟩ : ∃ F1 : Fs,(fun z => F z ∨ z = p5) = F1 := ⟨_,rfl⟩;have f5 : F1 p5 := by rw [← a]; exact .inr rfl
   have fs : ∀ z,F z → F1 z := fun z hz => by rw [← a]; exact .inl hz
   rw [a] at T;clear a;refine .done ?_;obtain ⟨dv,hd⟩ := T.bd;refine .sr (.m2 rfl (.t2 (aF rfl) (.t2 (aA cQ rfl) (.t2 (aB bA rfl (hd.var.g 1 rfl)) (.a2 rfl (.done ?_))))));refine Wp.seq (Wp.draw [0,1,2,3,4,5,6,7,8,9,10] [0] mixed (by kernel_rfl) (by kernel_rfl) ?_);intro w1 hx1 _;have hxd := hx1;replace hB := uC hB hxd hU;replace T := T.ext hxd;replace hd := hd.ext hxd;replace hv5 := hv5.ext hxd;refine .m2 rfl (.t2 (aF rfl) (.t2 (aA cQ rfl) (.t2 (aB bA rfl (hd.var.g 1 rfl)) (.t2 (aA gL rfl) (.t2 (aB hY rfl (hv5.g 1 rfl)) (.t2 (cS Tryz.underlying9 rfl) ?_))))))
   first | refine .tq (bC rfl rfl (by omega)) rfl ?_ | refine .tq (bV rfl rfl) rfl ?_
   rw [he];refine .t2 (aF rfl) (.t2 (aA cQ rfl) ?_);refine Rg.wnB trivial rfl (cG hd.var bA rfl rfl rfl rfl rfl) (by rfl) ?_;rintro _ w3 ⟨hu3,hv3⟩;simp only [List.set] at hv3;replace hB := hB.trans (Bw.upd hu3 fun hf => hd.nb (.inl (fs _ hf)));replace hv5 := hv5.upd hu3 (Var.ne hv5 hd.var (by decide));replace T := T.moved hd hu3 hv3;clear hd hv3 hu3;refine .done (.seq ?_);have hE3 := hE.bw hB h4;refine .sr (.t2 (aA iZ rfl) (.t2 (aB bA rfl (hv5.g 0 rfl)) (.done (Wp.block (.seq (.sr ?_))))))
   first | refine .tq (aS rfl rfl (by omega)) rfl ?_ | refine .tq (aR rfl rfl (by omega)) rfl ?_ | refine .tq (bM rfl rfl) rfl ?_
   refine .a2 rfl (.done (.condF rfl (Wp.region ?_)))
   first | refine .tq (aS rfl rfl (by omega)) rfl ?_ | refine .tq (aR rfl rfl (by omega)) rfl ?_ | refine .tq (bM rfl rfl) rfl ?_
   refine .a2 rfl (.done (.condF rfl (.sr ?_)))
   first | refine .tq (aS rfl rfl (by omega)) rfl ?_ | refine .tq (aR rfl rfl (by omega)) rfl ?_ | refine .tq (bM rfl rfl) rfl ?_
   refine .a2 rfl (.done (.condT rfl (.seq (.sr (.t2 (aA gL rfl) (.t2 (aB hY rfl (hv5.g 1 rfl)) ?_))))))
   first | refine .tq (cX rfl rfl (by first | with_reducible rfl | assumption)) rfl ?_ | refine .tq (cZ rfl rfl (by assumption)) rfl ?_ | refine .tq (dY rfl rfl) rfl ?_
   refine .done (.condT rfl (.sr (.m2 rfl (.m2 rfl (.m2 rfl ?_)))));refine Rg.wd trivial (aC Tryz.call84 rfl (gJ T.bd (by omega))) rfl ?_;rintro _ w4 ⟨hb4,hB4⟩;replace hB := hB.trans (hB4.sub fun z hz => .inl (fs z hz));replace T := T.rep hb4 hB4;replace hv5 := aE hv5 hB4 (.inl f5);clear hb4 hB4;refine .done (Wp.ret ?_);exact ⟨[],trivial,T.sub fs,hB⟩
  ·rw [if_neg n3]
   have n3e : x ≠ ⟨#[]⟩ := n3;refine Cl.enter Tryz.func38 rfl Tryz.ntmps38 rfl rfl (.sr (Rg.wd trivial (aW (cs := [.int .i64 kk,.string x,tv]) rfl rfl) rfl ?_));rintro _ w1 ⟨p5,rfl,q5,hx1,hv5⟩;have hU : Und F w.heap.size := T.und;have hB := Bw.of hx1 hU;have hE1 := hE.bw hB h4;replace T := T.add hx1 (Nat.le_of_eq q5.symm) hv5.lt;obtain ⟨F1,a⟩ : ∃ F1 : Fs,(fun z => F z ∨ z = p5) = F1 := ⟨_,rfl⟩;have f5 : F1 p5 := by rw [← a]; exact .inr rfl
   have fs : ∀ z,F z → F1 z := fun z hz => by rw [← a]; exact .inl hz
   rw [a] at T;clear a;refine .done ?_;obtain ⟨dv,hd⟩ := T.bd;refine .sr (.m2 rfl (.t2 (aF rfl) (.t2 (aA cQ rfl) (.t2 (aB bA rfl (hd.var.g 1 rfl)) (.a2 rfl (.done ?_))))));refine Wp.seq (Wp.draw [0,1,2,3,4,5,6,7,8,9,10] [0] mixed (by kernel_rfl) (by kernel_rfl) ?_);intro w1 hx1 _;have hxd := hx1;replace hB := uC hB hxd hU;replace T := T.ext hxd;replace hd := hd.ext hxd;replace hv5 := hv5.ext hxd;refine .m2 rfl (.t2 (aF rfl) (.t2 (aA cQ rfl) (.t2 (aB bA rfl (hd.var.g 1 rfl)) (.t2 (aA gL rfl) (.t2 (aB hY rfl (hv5.g 1 rfl)) (.t2 (cS Tryz.underlying9 rfl) ?_))))))
   first | refine .tq (bC rfl rfl (by omega)) rfl ?_ | refine .tq (bV rfl rfl) rfl ?_
   rw [he];refine .t2 (aF rfl) (.t2 (aA cQ rfl) ?_);refine Rg.wnB trivial rfl (cG hd.var bA rfl rfl rfl rfl rfl) (by rfl) ?_;rintro _ w3 ⟨hu3,hv3⟩;simp only [List.set] at hv3;replace hB := hB.trans (Bw.upd hu3 fun hf => hd.nb (.inl (fs _ hf)));replace hv5 := hv5.upd hu3 (Var.ne hv5 hd.var (by decide));replace T := T.moved hd hu3 hv3;clear hd hv3 hu3;refine .done (.seq ?_);have hE3 := hE.bw hB h4;refine .sr (.t2 (aA iZ rfl) (.t2 (aB bA rfl (hv5.g 0 rfl)) (.done (Wp.block (.seq (.sr ?_))))))
   first | refine .tq (aS rfl rfl (by omega)) rfl ?_ | refine .tq (aR rfl rfl (by omega)) rfl ?_ | refine .tq (bM rfl rfl) rfl ?_
   refine .a2 rfl (.done (.condF rfl (Wp.region ?_)))
   first | refine .tq (aS rfl rfl (by omega)) rfl ?_ | refine .tq (aR rfl rfl (by omega)) rfl ?_ | refine .tq (bM rfl rfl) rfl ?_
   refine .a2 rfl (.done (.condF rfl (.sr ?_)))
   first | refine .tq (aS rfl rfl (by omega)) rfl ?_ | refine .tq (aR rfl rfl (by omega)) rfl ?_ | refine .tq (bM rfl rfl) rfl ?_
   refine .a2 rfl (.done (.condT rfl (.seq (.sr (.t2 (aA gL rfl) (.t2 (aB hY rfl (hv5.g 1 rfl)) ?_))))))
   first | refine .tq (cX rfl rfl (by first | with_reducible rfl | assumption)) rfl ?_ | refine .tq (cZ rfl rfl (by assumption)) rfl ?_ | refine .tq (dY rfl rfl) rfl ?_
   refine .done (.condF rfl (Wp.skip ?_));obtain ⟨_,hdv⟩ := T.bvar;refine Wp.region (.m2 rfl (.m2 rfl (.m2 rfl (.t2 (aF rfl) (.t2 (aA cQ rfl) (.t2 (aB bA rfl (hdv.g 1 rfl)) ?_))))));refine Rg.wd trivial (aC Tryz.call84 rfl (gJ T.bd (by omega))) rfl ?_;rintro _ w4 ⟨hb4,hB4⟩;replace hB := hB.trans (hB4.sub fun z hz => .inl (fs z hz));replace T := T.rep hb4 hB4;replace hv5 := aE hv5 hB4 (.inl f5);clear hb4 hB4;clear hdv;refine .done ?_;obtain ⟨_,hdv⟩ := T.bvar;refine Wp.region (.m2 rfl (.m2 rfl (.m2 rfl (.t2 (aF rfl) (.t2 (aA cQ rfl) (.t2 (aB bA rfl (hdv.g 1 rfl)) (Rg.wd trivial (aC Tryz.call39 rfl (iU T.var)) rfl ?_)))))));rintro _ w5 ⟨hv5x,hu5⟩;replace hB := hB.trans (Bw.upd hu5 fun hf => T.nk (fs _ hf));replace T := T.put hu5 hv5x;clear hu5 hv5x;refine .done ?_;exact ⟨[],trivial,T.sub fs,hB⟩
 rw [if_neg n2]
 by_cases n4 : kk = 103
 ·rw [if_pos n4]
  refine Cl.enter Tryz.func38 rfl Tryz.ntmps38 rfl rfl (.sr (Rg.wd trivial (aW (cs := [.int .i64 kk,.string x,tv]) rfl rfl) rfl ?_));rintro _ w1 ⟨p5,rfl,q5,hx1,hv5⟩;have hU : Und F w.heap.size := T.und;have hB := Bw.of hx1 hU;have hE1 := hE.bw hB h4;replace T := T.add hx1 (Nat.le_of_eq q5.symm) hv5.lt;obtain ⟨F1,a⟩ : ∃ F1 : Fs,(fun z => F z ∨ z = p5) = F1 := ⟨_,rfl⟩;have f5 : F1 p5 := by rw [← a]; exact .inr rfl
  have fs : ∀ z,F z → F1 z := fun z hz => by rw [← a]; exact .inl hz
  rw [a] at T;clear a;refine .done ?_;obtain ⟨dv,hd⟩ := T.bd;refine .sr (.m2 rfl (.t2 (aF rfl) (.t2 (aA cQ rfl) (.t2 (aB bA rfl (hd.var.g 1 rfl)) (.a2 rfl (.done ?_))))));refine Wp.seq (Wp.draw [0,1,2,3,4,5,6,7,8,9,10] [0] mixed (by kernel_rfl) (by kernel_rfl) ?_);intro w1 hx1 _;have hxd := hx1;replace hB := uC hB hxd hU;replace T := T.ext hxd;replace hd := hd.ext hxd;replace hv5 := hv5.ext hxd;refine .m2 rfl (.t2 (aF rfl) (.t2 (aA cQ rfl) (.t2 (aB bA rfl (hd.var.g 1 rfl)) (.t2 (aA gL rfl) (.t2 (aB hY rfl (hv5.g 1 rfl)) (.t2 (cS Tryz.underlying9 rfl) ?_))))))
  first | refine .tq (bC rfl rfl (by omega)) rfl ?_ | refine .tq (bV rfl rfl) rfl ?_
  rw [he];refine .t2 (aF rfl) (.t2 (aA cQ rfl) ?_);refine Rg.wnB trivial rfl (cG hd.var bA rfl rfl rfl rfl rfl) (by rfl) ?_;rintro _ w3 ⟨hu3,hv3⟩;simp only [List.set] at hv3;replace hB := hB.trans (Bw.upd hu3 fun hf => hd.nb (.inl (fs _ hf)));replace hv5 := hv5.upd hu3 (Var.ne hv5 hd.var (by decide));replace T := T.moved hd hu3 hv3;clear hd hv3 hu3;refine .done (.seq ?_);have hE3 := hE.bw hB h4;refine .sr (.t2 (aA iZ rfl) (.t2 (aB bA rfl (hv5.g 0 rfl)) (.done (Wp.block (.seq (.sr ?_))))))
  first | refine .tq (aS rfl rfl (by omega)) rfl ?_ | refine .tq (aR rfl rfl (by omega)) rfl ?_ | refine .tq (bM rfl rfl) rfl ?_
  refine .a2 rfl (.done (.condF rfl (Wp.region ?_)))
  first | refine .tq (aS rfl rfl (by omega)) rfl ?_ | refine .tq (aR rfl rfl (by omega)) rfl ?_ | refine .tq (bM rfl rfl) rfl ?_
  refine .a2 rfl (.done (.condF rfl (.sr ?_)))
  first | refine .tq (aS rfl rfl (by omega)) rfl ?_ | refine .tq (aR rfl rfl (by omega)) rfl ?_ | refine .tq (bM rfl rfl) rfl ?_
  refine .a2 rfl (.done (.condF rfl (.sr ?_)))
  first | refine .tq (aS rfl rfl (by omega)) rfl ?_ | refine .tq (aR rfl rfl (by omega)) rfl ?_ | refine .tq (bM rfl rfl) rfl ?_
  refine .a2 rfl (.done (.condT rfl (Wp.region (.m2 rfl (.m2 rfl (.t2 (aA gL rfl) (.t2 (aB hY rfl (hv5.g 1 rfl)) (.m2 rfl ?_))))))));refine Rg.wd trivial (aC Tryz.call85 rfl (qW T (by omega) hxz)) rfl ?_;rintro _ w4 ⟨T4,hB4⟩;replace hB := hB.trans (hB4.sub fs);clear T;have T := T4;clear T4;refine .done ?_;obtain ⟨_,hdv⟩ := T.bvar;refine Wp.region (.m2 rfl (.m2 rfl (.m2 rfl (.t2 (aF rfl) (.t2 (aA cQ rfl) (.t2 (aB bA rfl (hdv.g 1 rfl)) (Rg.wd trivial (aC Tryz.call39 rfl (iU T.var)) rfl ?_)))))));rintro _ w5 ⟨hv5x,hu5⟩;replace hB := hB.trans (Bw.upd hu5 fun hf => T.nk (fs _ hf));replace T := T.put hu5 hv5x;clear hu5 hv5x;refine .done ?_;exact ⟨[],trivial,T.sub fs,hB⟩
 rw [if_neg n4]
 by_cases c105 : kk = 105
 ·rw [if_pos c105]
  refine Cl.enter Tryz.func38 rfl Tryz.ntmps38 rfl rfl (.sr (Rg.wd trivial (aW (cs := [.int .i64 kk,.string x,tv]) rfl rfl) rfl ?_));rintro _ w1 ⟨p5,rfl,q5,hx1,hv5⟩;have hU : Und F w.heap.size := T.und;have hB := Bw.of hx1 hU;have hE1 := hE.bw hB h4;replace T := T.add hx1 (Nat.le_of_eq q5.symm) hv5.lt;obtain ⟨F1,a⟩ : ∃ F1 : Fs,(fun z => F z ∨ z = p5) = F1 := ⟨_,rfl⟩;have f5 : F1 p5 := by rw [← a]; exact .inr rfl
  have fs : ∀ z,F z → F1 z := fun z hz => by rw [← a]; exact .inl hz
  rw [a] at T;clear a;refine .done ?_;obtain ⟨dv,hd⟩ := T.bd;refine .sr (.m2 rfl (.t2 (aF rfl) (.t2 (aA cQ rfl) (.t2 (aB bA rfl (hd.var.g 1 rfl)) (.a2 rfl (.done ?_))))));refine Wp.seq (Wp.draw [0,1,2,3,4,5,6,7,8,9,10] [0] mixed (by kernel_rfl) (by kernel_rfl) ?_);intro w1 hx1 _;have hxd := hx1;replace hB := uC hB hxd hU;replace T := T.ext hxd;replace hd := hd.ext hxd;replace hv5 := hv5.ext hxd;refine .m2 rfl (.t2 (aF rfl) (.t2 (aA cQ rfl) (.t2 (aB bA rfl (hd.var.g 1 rfl)) (.t2 (aA gL rfl) (.t2 (aB hY rfl (hv5.g 1 rfl)) (.t2 (cS Tryz.underlying9 rfl) ?_))))))
  first | refine .tq (bC rfl rfl (by omega)) rfl ?_ | refine .tq (bV rfl rfl) rfl ?_
  rw [he];refine .t2 (aF rfl) (.t2 (aA cQ rfl) ?_);refine Rg.wnB trivial rfl (cG hd.var bA rfl rfl rfl rfl rfl) (by rfl) ?_;rintro _ w3 ⟨hu3,hv3⟩;simp only [List.set] at hv3;replace hB := hB.trans (Bw.upd hu3 fun hf => hd.nb (.inl (fs _ hf)));replace hv5 := hv5.upd hu3 (Var.ne hv5 hd.var (by decide));replace T := T.moved hd hu3 hv3;clear hd hv3 hu3;refine .done (.seq ?_);have hE3 := hE.bw hB h4;refine .sr (.t2 (aA iZ rfl) (.t2 (aB bA rfl (hv5.g 0 rfl)) (.done (Wp.block (.seq (.sr ?_))))))
  first | refine .tq (aS rfl rfl (by omega)) rfl ?_ | refine .tq (aR rfl rfl (by omega)) rfl ?_ | refine .tq (bM rfl rfl) rfl ?_
  refine .a2 rfl (.done (.condF rfl (Wp.region ?_)))
  first | refine .tq (aS rfl rfl (by omega)) rfl ?_ | refine .tq (aR rfl rfl (by omega)) rfl ?_ | refine .tq (bM rfl rfl) rfl ?_
  refine .a2 rfl (.done (.condF rfl (.sr ?_)))
  first | refine .tq (aS rfl rfl (by omega)) rfl ?_ | refine .tq (aR rfl rfl (by omega)) rfl ?_ | refine .tq (bM rfl rfl) rfl ?_
  refine .a2 rfl (.done (.condF rfl (.sr ?_)))
  first | refine .tq (aS rfl rfl (by omega)) rfl ?_ | refine .tq (aR rfl rfl (by omega)) rfl ?_ | refine .tq (bM rfl rfl) rfl ?_
  refine .a2 rfl (.done (.condF rfl (.sr ?_)))
  first | refine .tq (aS rfl rfl (by omega)) rfl ?_ | refine .tq (aR rfl rfl (by omega)) rfl ?_ | refine .tq (bM rfl rfl) rfl ?_
  refine .a2 rfl (.done (.condT rfl (Wp.region (.m2 rfl (.m2 rfl (.t2 (aA gL rfl) (.t2 (aB hY rfl (hv5.g 1 rfl)) (.m2 rfl ?_))))))));refine Rg.wd trivial (aC Tryz.call86 rfl (yA T.bd hE3 (by omega) (ht c105).1 (ht c105).2 hxz)) rfl ?_;rintro _ w4 ⟨rfl,hb4,hB4⟩;replace hB := hB.trans (hB4.sub fun z hz => .inl (fs z hz));replace T := T.rep hb4 hB4;replace hv5 := aE hv5 hB4 (.inl f5);clear hb4 hB4;refine .t2 (aF rfl) (.t2 (aA eZ rfl) (Rg.wn trivial (cG T.var bA rfl rfl rfl rfl rfl) ?_));rintro _ w5 ⟨hu5,hv5x⟩;simp only [Hd.cells,List.set] at hv5x;replace hB := hB.trans (Bw.upd hu5 fun hf => T.nk (fs _ hf));replace T := T.put (h' := pZ h (zE x)) hu5 hv5x;clear hu5 hv5x;refine .done ?_;obtain ⟨_,hdv⟩ := T.bvar;refine Wp.region (.m2 rfl (.m2 rfl (.m2 rfl (.t2 (aF rfl) (.t2 (aA cQ rfl) (.t2 (aB bA rfl (hdv.g 1 rfl)) (Rg.wd trivial (aC Tryz.call39 rfl (iU T.var)) rfl ?_)))))));rintro _ w5 ⟨hv5x,hu5⟩;replace hB := hB.trans (Bw.upd hu5 fun hf => T.nk (fs _ hf));replace T := T.put hu5 hv5x;clear hu5 hv5x;refine .done ?_;exact ⟨[],trivial,T.sub fs,hB⟩
 rw [if_neg c105]
 by_cases n6 : kk = 106
 ·rw [if_pos n6]
  refine Cl.enter Tryz.func38 rfl Tryz.ntmps38 rfl rfl (.sr (Rg.wd trivial (aW (cs := [.int .i64 kk,.string x,tv]) rfl rfl) rfl ?_));rintro _ w1 ⟨p5,rfl,q5,hx1,hv5⟩;have hU : Und F w.heap.size := T.und;have hB := Bw.of hx1 hU;have hE1 := hE.bw hB h4;replace T := T.add hx1 (Nat.le_of_eq q5.symm) hv5.lt;obtain ⟨F1,a⟩ : ∃ F1 : Fs,(fun z => F z ∨ z = p5) = F1 := ⟨_,rfl⟩;have f5 : F1 p5 := by rw [← a]; exact .inr rfl
  have fs : ∀ z,F z → F1 z := fun z hz => by rw [← a]; exact .inl hz
  rw [a] at T;clear a;refine .done ?_;obtain ⟨dv,hd⟩ := T.bd;refine .sr (.m2 rfl (.t2 (aF rfl) (.t2 (aA cQ rfl) (.t2 (aB bA rfl (hd.var.g 1 rfl)) (.a2 rfl (.done ?_))))));refine Wp.seq (Wp.draw [0,1,2,3,4,5,6,7,8,9,10] [0] mixed (by kernel_rfl) (by kernel_rfl) ?_);intro w1 hx1 _;have hxd := hx1;replace hB := uC hB hxd hU;replace T := T.ext hxd;replace hd := hd.ext hxd;replace hv5 := hv5.ext hxd;refine .m2 rfl (.t2 (aF rfl) (.t2 (aA cQ rfl) (.t2 (aB bA rfl (hd.var.g 1 rfl)) (.t2 (aA gL rfl) (.t2 (aB hY rfl (hv5.g 1 rfl)) (.t2 (cS Tryz.underlying9 rfl) ?_))))))
  first | refine .tq (bC rfl rfl (by omega)) rfl ?_ | refine .tq (bV rfl rfl) rfl ?_
  rw [he];refine .t2 (aF rfl) (.t2 (aA cQ rfl) ?_);refine Rg.wnB trivial rfl (cG hd.var bA rfl rfl rfl rfl rfl) (by rfl) ?_;rintro _ w3 ⟨hu3,hv3⟩;simp only [List.set] at hv3;replace hB := hB.trans (Bw.upd hu3 fun hf => hd.nb (.inl (fs _ hf)));replace hv5 := hv5.upd hu3 (Var.ne hv5 hd.var (by decide));replace T := T.moved hd hu3 hv3;clear hd hv3 hu3;refine .done (.seq ?_);have hE3 := hE.bw hB h4;refine .sr (.t2 (aA iZ rfl) (.t2 (aB bA rfl (hv5.g 0 rfl)) (.done (Wp.block (.seq (.sr ?_))))))
  first | refine .tq (aS rfl rfl (by omega)) rfl ?_ | refine .tq (aR rfl rfl (by omega)) rfl ?_ | refine .tq (bM rfl rfl) rfl ?_
  refine .a2 rfl (.done (.condF rfl (Wp.region ?_)))
  first | refine .tq (aS rfl rfl (by omega)) rfl ?_ | refine .tq (aR rfl rfl (by omega)) rfl ?_ | refine .tq (bM rfl rfl) rfl ?_
  refine .a2 rfl (.done (.condF rfl (.sr ?_)))
  first | refine .tq (aS rfl rfl (by omega)) rfl ?_ | refine .tq (aR rfl rfl (by omega)) rfl ?_ | refine .tq (bM rfl rfl) rfl ?_
  refine .a2 rfl (.done (.condF rfl (.sr ?_)))
  first | refine .tq (aS rfl rfl (by omega)) rfl ?_ | refine .tq (aR rfl rfl (by omega)) rfl ?_ | refine .tq (bM rfl rfl) rfl ?_
  refine .a2 rfl (.done (.condF rfl (.sr ?_)))
  first | refine .tq (aS rfl rfl (by omega)) rfl ?_ | refine .tq (aR rfl rfl (by omega)) rfl ?_ | refine .tq (bM rfl rfl) rfl ?_
  refine .a2 rfl (.done (.condF rfl (.sr ?_)))
  first | refine .tq (aS rfl rfl (by omega)) rfl ?_ | refine .tq (aR rfl rfl (by omega)) rfl ?_ | refine .tq (bM rfl rfl) rfl ?_
  refine .a2 rfl (.done (.condT rfl (Wp.region (.m2 rfl (.m2 rfl (.t2 (aA gL rfl) (.t2 (aB hY rfl (hv5.g 1 rfl)) (.m2 rfl ?_))))))));refine Rg.wd trivial (aC Tryz.call87 rfl (xZ T.bd (by omega) (by omega))) rfl ?_;rintro _ w4 ⟨rfl,hb4,hB4⟩;replace hB := hB.trans (hB4.sub fun z hz => .inl (fs z hz));replace T := T.rep hb4 hB4;replace hv5 := aE hv5 hB4 (.inl f5);clear hb4 hB4;refine .t2 (aF rfl) (.t2 (aA fP rfl) (Rg.wn trivial (cG T.var hY rfl rfl rfl rfl rfl) ?_));rintro _ w5 ⟨hu5,hv5x⟩;simp only [Hd.cells,List.set] at hv5x;replace hB := hB.trans (Bw.upd hu5 fun hf => T.nk (fs _ hf));replace T := T.put (h' := Ik h (pY x)) hu5 hv5x;clear hu5 hv5x;refine .done ?_;obtain ⟨_,hdv⟩ := T.bvar;refine Wp.region (.m2 rfl (.m2 rfl (.m2 rfl (.t2 (aF rfl) (.t2 (aA cQ rfl) (.t2 (aB bA rfl (hdv.g 1 rfl)) (Rg.wd trivial (aC Tryz.call39 rfl (iU T.var)) rfl ?_)))))));rintro _ w5 ⟨hv5x,hu5⟩;replace hB := hB.trans (Bw.upd hu5 fun hf => T.nk (fs _ hf));replace T := T.put hu5 hv5x;clear hu5 hv5x;refine .done ?_;exact ⟨[],trivial,T.sub fs,hB⟩
 rw [if_neg n6];refine Cl.enter Tryz.func38 rfl Tryz.ntmps38 rfl rfl (.sr (Rg.wd trivial (aW (cs := [.int .i64 kk,.string x,tv]) rfl rfl) rfl ?_));rintro _ w1 ⟨p5,rfl,q5,hx1,hv5⟩;have hU : Und F w.heap.size := T.und;have hB := Bw.of hx1 hU;have hE1 := hE.bw hB h4;replace T := T.add hx1 (Nat.le_of_eq q5.symm) hv5.lt;obtain ⟨F1,a⟩ : ∃ F1 : Fs,(fun z => F z ∨ z = p5) = F1 := ⟨_,rfl⟩;have f5 : F1 p5 := by rw [← a]; exact .inr rfl
 have fs : ∀ z,F z → F1 z := fun z hz => by rw [← a]; exact .inl hz
 rw [a] at T;clear a;refine .done ?_;obtain ⟨dv,hd⟩ := T.bd;refine .sr (.m2 rfl (.t2 (aF rfl) (.t2 (aA cQ rfl) (.t2 (aB bA rfl (hd.var.g 1 rfl)) (.a2 rfl (.done ?_))))));refine Wp.seq (Wp.draw [0,1,2,3,4,5,6,7,8,9,10] [0] mixed (by kernel_rfl) (by kernel_rfl) ?_);intro w1 hx1 _;have hxd := hx1;replace hB := uC hB hxd hU;replace T := T.ext hxd;replace hd := hd.ext hxd;replace hv5 := hv5.ext hxd;refine .m2 rfl (.t2 (aF rfl) (.t2 (aA cQ rfl) (.t2 (aB bA rfl (hd.var.g 1 rfl)) (.t2 (aA gL rfl) (.t2 (aB hY rfl (hv5.g 1 rfl)) (.t2 (cS Tryz.underlying9 rfl) ?_))))))
 first | refine .tq (bC rfl rfl (by omega)) rfl ?_ | refine .tq (bV rfl rfl) rfl ?_
 rw [he];refine .t2 (aF rfl) (.t2 (aA cQ rfl) ?_);refine Rg.wnB trivial rfl (cG hd.var bA rfl rfl rfl rfl rfl) (by rfl) ?_;rintro _ w3 ⟨hu3,hv3⟩;simp only [List.set] at hv3;replace hB := hB.trans (Bw.upd hu3 fun hf => hd.nb (.inl (fs _ hf)));replace hv5 := hv5.upd hu3 (Var.ne hv5 hd.var (by decide));replace T := T.moved hd hu3 hv3;clear hd hv3 hu3;refine .done (.seq ?_);have hE3 := hE.bw hB h4;refine .sr (.t2 (aA iZ rfl) (.t2 (aB bA rfl (hv5.g 0 rfl)) (.done (Wp.block (.seq (.sr ?_))))))
 first | refine .tq (aS rfl rfl (by omega)) rfl ?_ | refine .tq (aR rfl rfl (by omega)) rfl ?_ | refine .tq (bM rfl rfl) rfl ?_
 refine .a2 rfl (.done (.condF rfl (Wp.region ?_)))
 first | refine .tq (aS rfl rfl (by omega)) rfl ?_ | refine .tq (aR rfl rfl (by omega)) rfl ?_ | refine .tq (bM rfl rfl) rfl ?_
 refine .a2 rfl (.done (.condF rfl (.sr ?_)))
 first | refine .tq (aS rfl rfl (by omega)) rfl ?_ | refine .tq (aR rfl rfl (by omega)) rfl ?_ | refine .tq (bM rfl rfl) rfl ?_
 refine .a2 rfl (.done (.condF rfl (.sr ?_)))
 first | refine .tq (aS rfl rfl (by omega)) rfl ?_ | refine .tq (aR rfl rfl (by omega)) rfl ?_ | refine .tq (bM rfl rfl) rfl ?_
 refine .a2 rfl (.done (.condF rfl (.sr ?_)))
 first | refine .tq (aS rfl rfl (by omega)) rfl ?_ | refine .tq (aR rfl rfl (by omega)) rfl ?_ | refine .tq (bM rfl rfl) rfl ?_
 refine .a2 rfl (.done (.condF rfl (.sr ?_)))
 first | refine .tq (aS rfl rfl (by omega)) rfl ?_ | refine .tq (aR rfl rfl (by omega)) rfl ?_ | refine .tq (bM rfl rfl) rfl ?_
 refine .a2 rfl (.done (.condF rfl (Wp.region (.m2 rfl (.t2 (aA gL rfl) (.t2 (aB hY rfl (hv5.g 1 rfl)) (Rg.wd trivial (aC Tryz.call88 rfl (xX T.var)) rfl ?_)))))));rintro _ w5 ⟨hv5x,hu5⟩;replace hB := hB.trans (Bw.upd hu5 fun hf => T.nk (fs _ hf));replace T := T.put hu5 hv5x;clear hu5 hv5x;refine .done ?_;obtain ⟨_,hdv⟩ := T.bvar;refine Wp.region (.m2 rfl (.m2 rfl (.m2 rfl (.t2 (aF rfl) (.t2 (aA cQ rfl) (.t2 (aB bA rfl (hdv.g 1 rfl)) (Rg.wd trivial (aC Tryz.call39 rfl (iU T.var)) rfl ?_)))))));rintro _ w5 ⟨hv5x,hu5⟩;replace hB := hB.trans (Bw.upd hu5 fun hf => T.nk (fs _ hf));replace T := T.put hu5 hv5x;clear hu5 hv5x;refine .done ?_;exact ⟨[],trivial,T.sub fs,hB⟩
theorem jT {F Q : Fs} {w : World} {b : Nat} {src : ByteArray} {off : Int} {ds : List Dg} {h : Hd} {cv : Value} {kids : List Mn} (hb : Bd F w b src off ds) (hQ : ∀ z,Q z → F z) (hn : NOk Q w (.mk h cv kids)) (h60 : h.kind = 60 → kids ≠ []) (hl : ds.length < 1000000) (hse : 0 ≤ h.st ∧ h.st ≤ h.en ∧ h.en ≤ src.size) (hsz : src.size ≤ 1000000) :
  Cl Tryz.prog 40 #[.pointer (some ⟨b,0,none⟩),.agg (h.cells cv).toArray] w (fun u w' => (∃ mn,u = .agg mn.cells.toArray ∧ mn.er = (Bm src h (dM kids) ds).1 ∧ NOk Q w' mn) ∧ Bd F w' b src off (Bm src h (dM kids) ds).2 ∧ Bw F w w') := by
 obtain ⟨hs,h1,hbk,hk⟩ : SlC w cv 7 kids.length (aK Mn.cells kids) ∧ cv.oneCell' = true ∧ gI Q cv ∧ ∀ g ∈ kids,NOk Q w g := by cases hn with | mk a b c d => exact ⟨a,b,c,d⟩
 have hU := hb.und;have hx := Ext.refl w;unfold Bm
 by_cases k60 : h.kind = 60
 ·rw [if_pos k60]
  obtain ⟨⟨c,ccv,cks⟩,rest,rfl⟩ : ∃ c rest,kids = c :: rest := by
   cases kids with
   | nil => exact absurd rfl (h60 k60)
   | cons c r => exact ⟨c,r,rfl⟩
  obtain ⟨c1,c2,c3,c4⟩ : SlC w ccv 7 cks.length (aK Mn.cells cks) ∧ ccv.oneCell' = true ∧ gI Q ccv ∧ ∀ g ∈ cks,NOk Q w g := by cases hk _ List.mem_cons_self with | mk a b c d => exact ⟨a,b,c,d⟩
  have hoc := Hd.one c c2;have hoc2 := Hd.one (Hd.mk c.kind c.value c.text h.st h.en c.ns) c2;have hlen : (0 : Int) < ((Mn.mk c ccv cks :: rest).length : Nat) := by simp
  refine Cl.enter Tryz.func40 rfl Tryz.ntmps40 rfl rfl (.sr (Rg.wd trivial (aW (cs := h.cells cv) rfl rfl) rfl ?_));rintro _ w1 ⟨p3,rfl,q3,hx1,hv3⟩;replace hx := hx.ext hx1;replace hb := hb.ext hx1;replace hs := hs.ext hx1;have g3 : w.heap.size ≤ p3 := by omega
  refine Rg.wd trivial (dB Tryz.zeroValue26 rfl) rfl ?_;rintro _ w2 ⟨p4,rfl,q4,hx2,hv4⟩;replace hx := hx.ext hx2;replace hb := hb.ext hx2;replace hs := hs.ext hx2;replace hv3 := hv3.ext hx2;have g4 : w.heap.size ≤ p4 := by have := hx1.le; omega
  refine .done (.seq (.sr (.t2 (aA aZ rfl) (.t2 (aB bA rfl (hv3.g 0 rfl)) (.done (Wp.block (.sr ?_)))))))
  first | refine .tq (aS rfl rfl (by omega)) rfl ?_ | refine .tq (aR rfl rfl (by omega)) rfl ?_ | refine .tq (bM rfl rfl) rfl ?_
  refine .a2 rfl (.done (.condT rfl (.sr (.t2 (aA eP rfl) (.t2 (aB iK rfl (hv3.g 6 rfl)) ?_)))));refine Rg.ix hs trivial rfl rfl Tryz.underlying24 cC (by omega) rfl ?_;intro bt13 ot13 ht13;rw [show (((aK Mn.cells (.mk c ccv cks :: rest)).drop ((0 : Int).toNat * 7)).take 7) = c.cells ccv from rfl] at ht13;refine .t2 (bB rfl ht13 (by exact cC)) ?_;refine Rg.wd trivial (dB Tryz.zeroValue26 rfl) rfl ?_;rintro _ wa5 ⟨p5,rfl,q5,e,f⟩;have l3 := hv3.lt;have l4 := hv4.lt;refine Rg.wn trivial (cW (cs := c.cells ccv) f rfl rfl rfl cC rfl hoc) ?_;rintro _ w3 ⟨hub5,hv5⟩;have hx3 := e.upd hub5 (Nat.le_of_eq q5.symm);clear f hub5 e;replace hx := hx.ext hx3;replace hb := hb.ext hx3;replace hs := hs.ext hx3;replace hv3 := hv3.ext hx3;replace hv4 := hv4.ext hx3;replace ht13 := ht13.ext hx3;have n45 : p4 ≠ p5 := by omega
  have n35 : p3 ≠ p5 := by omega
  refine .done ?_;have g5 : w.heap.size ≤ p5 := by have := g4; omega
  refine Wp.seq (Wp.drawS (fun w' => Var w' p3 (h.cells cv) 26) [0,1,2,3,4,5,6,7] [] mixed (by kernel_rfl) (by kernel_rfl) (by rfl) ?_);intro w4 hx4 hh4;replace hx := hx.ext hx4;replace hb := hb.ext hx4;replace hs := hs.ext hx4;replace hv3 := hv3.ext hx4;replace hv4 := hv4.ext hx4;replace ht13 := ht13.ext hx4;replace hv5 := hv5.ext hx4;refine ⟨hv3,?_⟩;refine Rs.tm trivial rfl (ts fun wz hkz => by exact aA eU rfl) rfl ?_;refine Rs.tm trivial rfl (ts fun wz hkz => by have yS := hkz.cells; exact aB bA rfl (by apply bF.get (i := 3); (case h => assumption); rfl)) rfl ?_;refine Rs.tm trivial rfl (ts fun wz hkz => by exact aA dV rfl) rfl ?_;refine Rs.tm trivial rfl (ts fun wz hkz => by have yS := hkz.cells; exact aB bA rfl (by apply bF.get (i := 4); (case h => assumption); rfl)) rfl ?_;refine Rs.tm trivial rfl (ts fun wz hkz => by exact aA eU rfl) rfl ?_;refine Rs.wn trivial rfl (cG hv5 bA rfl rfl rfl rfl rfl) (fun _ => fun _ _ h => hv3.upd h.1 n35) ?_;rintro _ w5 ⟨hu,hv5y⟩;replace hx := hx.upd hu g5;replace hb := hb.upd hv5 (by decide) (by decide) hu;replace hv4 := hv4.upd hu n45;replace hv3 := hv3.upd hu n35;clear hv5 hu;have hv5 := hv5y;clear hv5y;simp only [Hd.cells,List.set] at hv5;refine Rs.tm trivial rfl (ts fun wz hkz => by exact aA dV rfl) rfl ?_;refine Rs.wn trivial rfl (cG hv5 bA rfl rfl rfl rfl rfl) (fun _ => fun _ _ h => hv3.upd h.1 n35) ?_;rintro _ w6 ⟨hu,hv5y⟩;replace hx := hx.upd hu g5;replace hb := hb.upd hv5 (by decide) (by decide) hu;replace hv4 := hv4.upd hu n45;replace hv3 := hv3.upd hu n35;clear hv5 hu;have hv5 := hv5y;clear hv5y;simp only [Hd.cells,List.set] at hv5;refine Rs.done (.sr ?_);refine .t2 (bB rfl hv5.cells (by exact cC)) ?_;refine Rg.wn trivial (cW (cs := (Hd.mk c.kind c.value c.text h.st h.en c.ns).cells ccv) hv4 rfl rfl rfl cC rfl hoc2) ?_;rintro _ w9 ⟨hu9,hv9⟩;replace hx := hx.upd hu9 g4;replace hb := hb.upd hv4 (by decide) (by decide) hu9;refine .done (Wp.ret ?_)
  exact ⟨[_],⟨⟨_,rfl,kM hv9 cC⟩,trivial⟩,⟨.mk ⟨c.kind,c.value,c.text,h.st,h.en,c.ns⟩ ccv cks,rfl,rfl,(NOk.mk c1 c2 c3 c4 : NOk Q w (.mk ⟨c.kind,c.value,c.text,h.st,h.en,c.ns⟩ ccv cks)).bw (Bw.of hx fun z hz => hU z (hQ z hz)) fun z hz => hz⟩,hb,Bw.of hx hU⟩
 rw [if_neg k60]
 by_cases k46 : h.kind = 46
 ·rw [if_pos k46]
  by_cases hee : h.st = h.en
  ·rw [if_pos hee]
   refine Cl.enter Tryz.func40 rfl Tryz.ntmps40 rfl rfl (.sr (Rg.wd trivial (aW (cs := h.cells cv) rfl rfl) rfl ?_));rintro _ w1 ⟨p3,rfl,q3,hx1,hv3⟩;have g3 : w.heap.size ≤ p3 := by omega
   replace hb := (hb.add (k := p3) hx1 (Nat.le_of_eq q3.symm) hv3.lt);replace hx := hx.ext hx1;replace hs := hs.ext hx1;refine Rg.wd trivial (dB Tryz.zeroValue26 rfl) rfl ?_;rintro _ w2 ⟨p4,rfl,q4,hx2,hv4⟩;have g4 : w.heap.size ≤ p4 := by have := hx1.le; omega
   have hbA := (hb.add (k := p4) hx2 (Nat.le_of_eq q4.symm) hv4.lt);replace hx := hx.ext hx2;replace hs := hs.ext hx2;replace hv3 := hv3.ext hx2;replace hb := hb.ext hx2;refine .done (.seq ?_)
   
   refine .sr (.t2 (aA aZ rfl) (.t2 (aB bA rfl (hv3.g 0 rfl)) (.done (Wp.block (.sr ?_)))))
   first | refine .tq (aS rfl rfl (by omega)) rfl ?_ | refine .tq (aR rfl rfl (by omega)) rfl ?_ | refine .tq (bM rfl rfl) rfl ?_
   refine .a2 rfl (.done (.condF rfl (.sr ?_)))
   first | refine .tq (aS rfl rfl (by omega)) rfl ?_ | refine .tq (aR rfl rfl (by omega)) rfl ?_ | refine .tq (bM rfl rfl) rfl ?_
   refine .a2 rfl (.done (.condT rfl (.sr (.a2 rfl (.done (.seq ?_))))))
   skip
   refine .sr (.t2 (aA eU rfl) (.t2 (aB bA rfl (hv3.g 3 rfl)) (.t2 (aA dV rfl) (.t2 (aB bA rfl (hv3.g 4 rfl)) ?_))))
   first | refine .tq (aS rfl rfl (by omega)) rfl ?_ | refine .tq (aR rfl rfl (by omega)) rfl ?_ | refine .tq (bM rfl rfl) rfl ?_
   refine .done (.condT rfl (Wp.region (.a2 rfl (.done ?_))));have hb2 := hbA;refine .sr (.m2 rfl (.m2 rfl (.t2 (aA eU rfl) (.t2 (aB bA rfl (hv3.g 3 rfl)) (.t2 (aA dV rfl) (.t2 (aB bA rfl (hv3.g 4 rfl)) (Rg.wd trivial (aC Tryz.call84 rfl (gJ hb2 hl)) rfl ?_)))))));rintro _ w5 ⟨hb5,hB5⟩;have hb6 := hb5.sub (F := F) fun z hz => .inl (.inl hz);have hB6 : Bw F w w5 := (Bw.of hx hU).trans (hB5.sub fun z hz => .inl (.inl hz));have hv3x := aE hv3 hB5 (.inl (.inr rfl));have hv4x := aE hv4 hB5 (.inr rfl);clear hb hv3 hv4 hb5;have hv3 := hv3x;have hv4 := hv4x;clear hv3x hv4x;refine .done ?_;refine Wp.seq (Wp.draw [0,1,2,3,4,5,6,7,8,9,10,11,12,13,14] [0] mixed (by kernel_rfl) (by kernel_rfl) ?_);intro w3 hx3 _;have hB7 := uC hB6 hx3 hU;have hb7 := hb6.ext hx3;replace hv3 := hv3.ext hx3;replace hv4 := hv4.ext hx3;obtain ⟨dv,hbv⟩ := hb7;refine .m2 rfl (.t2 (aF rfl) (.t2 (aA Ch rfl) (.t2 (aB hY rfl (hbv.var.g 0 rfl)) (.t2 (aA eU rfl) (.t2 (aB bA rfl (hv3.g 3 rfl)) (.t2 (aA dV rfl) (.t2 (aB bA rfl (hv3.g 4 rfl)) ?_)))))));refine .t2 (eK Tryz.underlying9 rfl rfl rfl (by omega)) ?_;refine .t2 (aA eU rfl) (.t2 (aB bA rfl (hv3.g 3 rfl)) (.t2 (aA dV rfl) (.t2 (aB bA rfl (hv3.g 4 rfl)) (.t2 (cH (lE _ _ _ _ _) rfl) ?_))));refine Rg.wnB trivial rfl (cW (cs := (Hd.mk 46 0 (src.extract h.st.toNat h.en.toNat) h.st h.en (-1)).cells (.slice none 0 0)) hv4 rfl rfl rfl cC rfl rfl) (by rfl) ?_;rintro _ w9 ⟨hu9,hv9⟩;have hb9 := (Bd.upd ⟨dv,hbv⟩ hv4 (by decide) (by decide) hu9 : Bd F w9 b src off _);have hB9 := hB7.trans (Bw.upd hu9 fun hf => by have := hU p4 hf; omega);refine .done (Wp.ret ?_);exact ⟨[_],⟨⟨_,rfl,kM hv9 cC⟩,trivial⟩,⟨.mk ⟨46,0,src.extract h.st.toNat h.en.toNat,h.st,h.en,-1⟩ (.slice none 0 0) [],rfl,rfl,.mk ⟨by simp [aK],none,0,rfl,Nat.le_refl _,.inl rfl⟩ rfl (fun b hb => by cases hb) fun g hg => absurd hg List.not_mem_nil⟩,hb9,hB9⟩
  ·rw [if_neg hee]
   refine Cl.enter Tryz.func40 rfl Tryz.ntmps40 rfl rfl (.sr (Rg.wd trivial (aW (cs := h.cells cv) rfl rfl) rfl ?_));rintro _ w1 ⟨p3,rfl,q3,hx1,hv3⟩;have g3 : w.heap.size ≤ p3 := by omega
   replace hb := (hb.add (k := p3) hx1 (Nat.le_of_eq q3.symm) hv3.lt);replace hx := hx.ext hx1;replace hs := hs.ext hx1;refine Rg.wd trivial (dB Tryz.zeroValue26 rfl) rfl ?_;rintro _ w2 ⟨p4,rfl,q4,hx2,hv4⟩;have g4 : w.heap.size ≤ p4 := by have := hx1.le; omega
   have hbA := (hb.add (k := p4) hx2 (Nat.le_of_eq q4.symm) hv4.lt);replace hx := hx.ext hx2;replace hs := hs.ext hx2;replace hv3 := hv3.ext hx2;replace hb := hb.ext hx2;refine .done (.seq ?_)
   
   refine .sr (.t2 (aA aZ rfl) (.t2 (aB bA rfl (hv3.g 0 rfl)) (.done (Wp.block (.sr ?_)))))
   first | refine .tq (aS rfl rfl (by omega)) rfl ?_ | refine .tq (aR rfl rfl (by omega)) rfl ?_ | refine .tq (bM rfl rfl) rfl ?_
   refine .a2 rfl (.done (.condF rfl (.sr ?_)))
   first | refine .tq (aS rfl rfl (by omega)) rfl ?_ | refine .tq (aR rfl rfl (by omega)) rfl ?_ | refine .tq (bM rfl rfl) rfl ?_
   refine .a2 rfl (.done (.condT rfl (.sr (.a2 rfl (.done (.seq ?_))))))
   skip
   refine .sr (.t2 (aA eU rfl) (.t2 (aB bA rfl (hv3.g 3 rfl)) (.t2 (aA dV rfl) (.t2 (aB bA rfl (hv3.g 4 rfl)) ?_))))
   first | refine .tq (aS rfl rfl (by omega)) rfl ?_ | refine .tq (aR rfl rfl (by omega)) rfl ?_ | refine .tq (bM rfl rfl) rfl ?_
   refine .done (.condF rfl (Wp.skip ?_));have hb2 := hbA;refine .sr (.m2 rfl (.m2 rfl (.t2 (aA eU rfl) (.t2 (aB bA rfl (hv3.g 3 rfl)) (.t2 (aA dV rfl) (.t2 (aB bA rfl (hv3.g 4 rfl)) (Rg.wd trivial (aC Tryz.call84 rfl (gJ hb2 hl)) rfl ?_)))))));rintro _ w5 ⟨hb5,hB5⟩;have hb6 := hb5.sub (F := F) fun z hz => .inl (.inl hz);have hB6 : Bw F w w5 := (Bw.of hx hU).trans (hB5.sub fun z hz => .inl (.inl hz));have hv3x := aE hv3 hB5 (.inl (.inr rfl));have hv4x := aE hv4 hB5 (.inr rfl);clear hb hv3 hv4 hb5;have hv3 := hv3x;have hv4 := hv4x;clear hv3x hv4x;refine .done ?_;refine Wp.seq (Wp.draw [0,1,2,3,4,5,6,7,8,9,10,11,12,13,14] [0] mixed (by kernel_rfl) (by kernel_rfl) ?_);intro w3 hx3 _;have hB7 := uC hB6 hx3 hU;have hb7 := hb6.ext hx3;replace hv3 := hv3.ext hx3;replace hv4 := hv4.ext hx3;obtain ⟨dv,hbv⟩ := hb7;refine .m2 rfl (.t2 (aF rfl) (.t2 (aA Ch rfl) (.t2 (aB hY rfl (hbv.var.g 0 rfl)) (.t2 (aA eU rfl) (.t2 (aB bA rfl (hv3.g 3 rfl)) (.t2 (aA dV rfl) (.t2 (aB bA rfl (hv3.g 4 rfl)) ?_)))))));refine .t2 (eK Tryz.underlying9 rfl rfl rfl (by omega)) ?_;refine .t2 (aA eU rfl) (.t2 (aB bA rfl (hv3.g 3 rfl)) (.t2 (aA dV rfl) (.t2 (aB bA rfl (hv3.g 4 rfl)) (.t2 (cH (lE _ _ _ _ _) rfl) ?_))));refine Rg.wnB trivial rfl (cW (cs := (Hd.mk 46 0 (src.extract h.st.toNat h.en.toNat) h.st h.en (-1)).cells (.slice none 0 0)) hv4 rfl rfl rfl cC rfl rfl) (by rfl) ?_;rintro _ w9 ⟨hu9,hv9⟩;have hb9 := (Bd.upd ⟨dv,hbv⟩ hv4 (by decide) (by decide) hu9 : Bd F w9 b src off _);have hB9 := hB7.trans (Bw.upd hu9 fun hf => by have := hU p4 hf; omega);refine .done (Wp.ret ?_);exact ⟨[_],⟨⟨_,rfl,kM hv9 cC⟩,trivial⟩,⟨.mk ⟨46,0,src.extract h.st.toNat h.en.toNat,h.st,h.en,-1⟩ (.slice none 0 0) [],rfl,rfl,.mk ⟨by simp [aK],none,0,rfl,Nat.le_refl _,.inl rfl⟩ rfl (fun b hb => by cases hb) fun g hg => absurd hg List.not_mem_nil⟩,hb9,hB9⟩
 rw [if_neg k46];refine Cl.enter Tryz.func40 rfl Tryz.ntmps40 rfl rfl (.sr (Rg.wd trivial (aW (cs := h.cells cv) rfl rfl) rfl ?_));rintro _ w1 ⟨p3,rfl,q3,hx1,hv3⟩;replace hx := hx.ext hx1;replace hb := hb.ext hx1;replace hs := hs.ext hx1;have g3 : w.heap.size ≤ p3 := by omega
 refine Rg.wd trivial (dB Tryz.zeroValue26 rfl) rfl ?_;rintro _ w2 ⟨p4,rfl,q4,hx2,hv4⟩;replace hx := hx.ext hx2;replace hb := hb.ext hx2;replace hs := hs.ext hx2;replace hv3 := hv3.ext hx2;have g4 : w.heap.size ≤ p4 := by have := hx1.le; omega
 refine .done (.seq (.sr (.t2 (aA aZ rfl) (.t2 (aB bA rfl (hv3.g 0 rfl)) (.done (Wp.block (.sr ?_)))))))
 first | refine .tq (aS rfl rfl (by omega)) rfl ?_ | refine .tq (aR rfl rfl (by omega)) rfl ?_ | refine .tq (bM rfl rfl) rfl ?_
 refine .a2 rfl (.done (.condF rfl (.sr ?_)))
 first | refine .tq (aS rfl rfl (by omega)) rfl ?_ | refine .tq (aR rfl rfl (by omega)) rfl ?_ | refine .tq (bM rfl rfl) rfl ?_
 refine .a2 rfl (.done (.condF rfl (Wp.skip (.sr ?_))));refine .t2 (bB rfl hv3.cells (by exact cC)) ?_;refine Rg.wn trivial (cW (cs := h.cells cv) hv4 rfl rfl rfl cC rfl (Hd.one h h1)) ?_;rintro _ w9 ⟨hu9,hv9⟩;replace hx := hx.upd hu9 g4;replace hb := hb.upd hv4 (by decide) (by decide) hu9;refine .done (Wp.ret ?_);exact ⟨[_],⟨⟨_,rfl,kM hv9 cC⟩,trivial⟩,⟨.mk h cv kids,rfl,rfl,hn.bw (Bw.of hx fun z hz => hU z (hQ z hz)) fun z hz => hz⟩,hb,Bw.of hx hU⟩
end Go.Proofs.YtlndmiegodcfjaaGreatDoor.Ast
namespace Go.Proofs.YtlndmiegodcfjaaGreatDoor.Ast
open Par
structure Inv (h : Hd) (o off : Int) : Prop where
 a : o ≤ h.st
 b : h.st ≤ off
 c : h.en ≤ off
 d : h.en < 0 ∨ h.st ≤ h.en
theorem Inv.ext {h : Hd} {o off s e : Int} (i : Inv h o off) (h0 : 0 ≤ o) (h1 : off ≤ s) (h2 : s ≤ e) : Inv (ext h s e) o e := by
 obtain ⟨a,b,c,d⟩ := i;unfold Ast.ext
 by_cases hn : h.en < 0
 ·simp only [if_pos hn]
  exact ⟨by simp only; omega,by simp only; omega,by simp only; omega,.inr (by simp only; omega)⟩
 ·simp only [if_neg hn]
  exact ⟨by simp only; omega,by simp only; omega,by simp only; omega,.inr (by simp only; omega)⟩
theorem Inv.to {h h' : Hd} {o off : Int} (i : Inv h o off) (h1 : h'.st = h.st) (h2 : h'.en = h.en) : Inv h' o off := ⟨h1 ▸ i.a,h1 ▸ i.b,h2 ▸ i.c,by rw [h1,h2]; exact i.d⟩
theorem yB (x : ByteArray) : ∀ f i,(pX x f i).2.length ≤ f
 | 0,i => Nat.le_refl _
 | f + 1,i => by
  have a := yB x f (i + 2);have b := yB x f (i + 1);unfold pX
  split
  ·simp only
   split
   ·split
    ·simp only; omega
    ·split <;> simp only [List.length_cons] <;> omega
   ·simp only; omega
  ·simp
theorem jX (h : Hd) (x : ByteArray) : (flag h x).st = h.st ∧ (flag h x).en = h.en ∧ (flag h x).kind = h.kind := by
 unfold flag
 repeat' split
 all_goals exact ⟨rfl,rfl,rfl⟩
theorem iH (h : Hd) (x : ByteArray) (s : Int) : (iM h x s).st = h.st ∧ (iM h x s).en = h.en ∧ (iM h x s).kind = h.kind := by
 unfold iM
 split
 all_goals exact ⟨rfl,rfl,rfl⟩
theorem vR {h : Hd} {o off k : Int} {ds : List Dg} {x : ByteArray} (i : Inv h o off) (h0 : 0 ≤ o) : Inv (jD h off ds k x).1 o (jD h off ds k x).2.1 ∧ (jD h off ds k x).2.1 = off + x.size ∧ (jD h off ds k x).2.2.length ≤ ds.length + 1 + x.size ∧ (jD h off ds k x).1.kind = h.kind := by
 have hs : off ≤ off + (x.size : Int) := by omega
 have he : ∀ h',h'.st = h.st → h'.en = h.en → Inv (ext h' off (off + x.size)) o (off + x.size) := fun h' a b => (i.to a b).ext h0 (Int.le_refl _) hs;have hu := yB x x.size 1;unfold jD;simp only
 split
 ·exact ⟨⟨i.a,by have := i.b; simp only; omega,by have := i.c; simp only; omega,i.d⟩,rfl,by simp only; omega,rfl⟩
 split
 ·split
  ·exact ⟨⟨i.a,by have := i.b; simp only; omega,by have := i.c; simp only; omega,i.d⟩,rfl,by simp,rfl⟩
  ·exact ⟨he _ rfl rfl,rfl,by simp,rfl⟩
 split
 ·refine ⟨he _ (iH _ _ _).1 (iH _ _ _).2.1,rfl,?_,(iH _ _ _).2.2⟩
  rw [List.length_append]
  split <;> simp <;> omega
 split
 ·refine ⟨he _ rfl rfl,rfl,?_,rfl⟩
  rw [List.length_append]
  split <;> simp <;> omega
 split
 ·refine ⟨he _ rfl rfl,rfl,?_,rfl⟩
  rw [List.length_append];unfold tG;rw [List.length_map];omega
 ·exact ⟨he _ (jX _ _).1 (jX _ _).2.1,rfl,by simp only; omega,(jX _ _).2.2⟩
theorem yC {src : ByteArray} {r : Hd × List An × Int × List Dg} {o : Int} (i : Inv r.1 o r.2.2.1) : o ≤ (kN src r).1.hd.st ∧ (kN src r).1.hd.st ≤ (kN src r).1.hd.en ∧ (kN src r).1.hd.en ≤ r.2.2.1 ∧ (kN src r).2.2.length ≤ r.2.2.2.length + 1 := by
 obtain ⟨a,b,c,d⟩ := i;have e1 : r.1.st ≤ max r.1.en r.1.st := Int.le_max_right _ _;have e2 : max r.1.en r.1.st ≤ r.2.2.1 := Int.max_le.2 ⟨c,b⟩;unfold kN Bm kU;simp only
 split
 ·split
  ·exact ⟨a,e1,e2,by simp only; omega⟩
  ·exact ⟨a,e1,e2,by simp only; omega⟩
 split
 ·exact ⟨a,e1,e2,by simp⟩
 ·exact ⟨a,e1,e2,by simp only; omega⟩
mutual
theorem nH (src : ByteArray) : ∀ (t : Tr) (off : Int) (ds : List Dg),0 ≤ off → t.wf → kd t < 100 →
  off ≤ (gV src t off ds).1.hd.st ∧ (gV src t off ds).1.hd.st ≤ (gV src t off ds).1.hd.en ∧ (gV src t off ds).1.hd.en ≤ (gV src t off ds).2.1 ∧ (gV src t off ds).2.1 = off + t.txt.length ∧ (gV src t off ds).2.2.length ≤ ds.length + t.cnt + t.txt.length
 | .mk k x ks,off,ds,h0,hw,hk => by
  simp only [Tr.wf] at hw
  rcases hw with ⟨h1,_⟩ | ⟨_,_,hx,hl⟩
  ·exact absurd hk (by simp only [kd]; omega)
  ·obtain ⟨i,e,n,_⟩ := lI src ks (qA k off) [] off ds off h0 ⟨Int.le_refl _,Int.le_refl _,by show (-1 : Int) ≤ off; omega,.inl (show (-1 : Int) < 0 by decide)⟩ hl
   obtain ⟨a,b,c,d⟩ := yC (src := src) i;rw [gV];have hx0 : x.data.toList.length = 0 := by rw [hx]; rfl
   simp only [Tr.txt,Tr.cnt,List.length_append,hx0];refine ⟨a,b,c,?_,?_⟩
   ·show (eD src ks (qA k off) [] off ds).2.2.1 = _
    rw [e];simp
   ·omega
theorem lI (src : ByteArray) : ∀ (l : List Tr) (h : Hd) (ns : List An) (off : Int) (ds : List Dg) (o : Int),0 ≤ o → Inv h o off → qQ l →
  Inv (eD src l h ns off ds).1 o (eD src l h ns off ds).2.2.1 ∧ (eD src l h ns off ds).2.2.1 = off + (gK l).length ∧ (eD src l h ns off ds).2.2.2.length ≤ ds.length + fN l + (gK l).length ∧ (eD src l h ns off ds).1.kind = h.kind
 | [],h,ns,off,ds,o,h0,i,hw => by simp [eD,gK,fN,i]
 | t :: l,h,ns,off,ds,o,h0,i,hw => by
  simp only [qQ] at hw;have ho : 0 ≤ off := by have := i.a; have := i.b; omega
  rw [eD];simp only [gK,fN,List.length_append]
  by_cases h1 : 100 ≤ kd t
  ·rw [if_pos h1]
   obtain ⟨a,b,c,d⟩ := vR (k := kd t) (x := tx t) (ds := ds) i h0;obtain ⟨e,f,g,j⟩ := lI src l _ ns _ (jD h off ds (kd t) (tx t)).2.2 o h0 a hw.2;have ht : t.txt.length = (tx t).size ∧ 1 ≤ t.cnt := by
    obtain ⟨k,x,ks⟩ := t;simp only [Tr.wf,kd] at hw h1
    rcases hw.1 with ⟨_,hn⟩ | ⟨_,h2,_⟩
    ·subst hn
     simp only [Tr.txt,gK,List.append_nil,tx,Tr.cnt,fN];exact ⟨by rw [Array.length_toList]; rfl,by omega⟩
    ·omega
   refine ⟨e,?_,?_,j.trans d⟩
   ·rw [f,b]; omega
   ·omega
  ·rw [if_neg h1]
   obtain ⟨a,b,c,d,n⟩ := nH src t off ds ho hw.1 (by omega);have i2 : Inv (ext h (gV src t off ds).1.hd.st (gV src t off ds).1.hd.en) o (gV src t off ds).2.1 := by
    have i3 := i.ext h0 a b;exact ⟨i3.a,by have := i3.b; omega,by have := i3.c; omega,i3.d⟩
   obtain ⟨e,f,g,j⟩ := lI src l _ (ns ++ [(gV src t off ds).1]) _ (gV src t off ds).2.2 o h0 i2 hw.2;refine ⟨e,?_,?_,j⟩
   ·rw [f,d]; omega
   ·omega
end
theorem qC (src : ByteArray) : ∀ (l m : List Tr) (h : Hd) (ns : List An) (off : Int) (ds : List Dg),eD src (l ++ m) h ns off ds = eD src m (eD src l h ns off ds).1 (eD src l h ns off ds).2.1 (eD src l h ns off ds).2.2.1 (eD src l h ns off ds).2.2.2
 | [],m,h,ns,off,ds => by simp [eD]
 | t :: l,m,h,ns,off,ds => by
  rw [List.cons_append,eD,eD]
  by_cases h1 : 100 ≤ kd t
  ·rw [if_pos h1,if_pos h1]
   exact qC src l m _ _ _ _
  ·rw [if_neg h1,if_neg h1]
   exact qC src l m _ _ _ _
end Go.Proofs.YtlndmiegodcfjaaGreatDoor.Ast
namespace Go.Proofs.YtlndmiegodcfjaaGreatDoor.Ast
set_option maxRecDepth 20000
open Go.Gx Go.RowKit Go.Lib
open Lexi (Asc)
open Par
structure Nd (F : Fs) (H : Nat) (w : World) (b k : Nat) (src : ByteArray) (off : Int) (ds : List Dg) (h : Hd) (cv : Value) (kids : List Mn) (K : Fs) : Prop where
 tk : Tk (fun z => F z ∨ K z) w b k src off ds h cv
 row : w.ownsRow H 26 7 cv kids.length (aK Mn.cells kids)
 new : ∀ z,K z → H ≤ z
 ok : ∀ g ∈ kids,NOk K w g
 out : ∀ z,cv.ownBlock = some z → ¬ F z ∧ ¬ K z ∧ z ≠ k
theorem zJ {w : World} {B e size n z : Nat} {v : Value} {xs : List Value} (h : w.ownsRow B e size v n xs) (hz : v.ownBlock = some z) : B ≤ z := by
 rcases bH h with ⟨e2,_⟩ | ⟨g,cap,sp,e2,h1,_⟩
 ·rw [e2] at hz; cases hz
 ·rw [e2] at hz; cases hz; exact h1
def FR (F K : Fs) (cv : Value) : Fs := fun z => (F z ∨ K z) ∨ cv.ownBlock = some z
section
variable {F K K2 : Fs} {H b k : Nat} {w w' : World} {src : ByteArray} {off off' : Int} {ds ds' : List Dg} {h h' : Hd} {cv cv' : Value} {kids : List Mn} {mn : Mn}
theorem Nd.full (N : Nd F H w b k src off ds h cv kids K) : Tk (FR F K cv) w b k src off ds h cv := by
 obtain ⟨dv,hd⟩ := N.tk.bd;refine ⟨⟨dv,fun z hz => ?_,hd.var,hd.row,fun hz => ?_,fun z hz hf => ?_⟩,N.tk.var,fun hz => ?_⟩
 ·rcases hz with (hz | hz) | hz
  ·exact hd.und z (.inl hz)
  ·exact jI N.row hz
  ·exact hd.und z (.inr hz)
 ·rcases hz with (hz | hz) | hz
  ·exact hd.nb (.inl hz)
  ·exact fU N.row hd.var (by decide) (by rw [hz]; simp)
  ·exact hd.nb (.inr hz)
 ·rcases hf with (hf | hf) | hf
  ·exact hd.nd z hz (.inl hf)
  ·obtain ⟨c1,e1⟩ := jP hd.row hz.symm
   obtain ⟨c2,e2⟩ := jP N.row hf.symm;rw [e1] at e2
   cases e2
  ·exact hd.nd z hz (.inr hf)
 ·rcases hz with hz | hz
  ·exact N.tk.nk hz
  ·exact (N.out k hz).2.2 rfl
theorem Nd.back (N : Nd F H w b k src off ds h cv kids K) (T : Tk (FR F K cv) w' b k src off' ds' h' cv) (hB : Bw (FR F K cv) w w') : Nd F H w' b k src off' ds' h' cv kids K :=
 ⟨T.sub fun z hz => .inl hz,fK N.row hB fun z hz => .inr hz,N.new,fun g hg => (N.ok g hg).bw (hB.sub fun z hz => .inl (.inr hz)) fun z hz => hz,N.out⟩
theorem Nd.ext (N : Nd F H w b k src off ds h cv kids K) (hx : Ext w w') : Nd F H w' b k src off ds h cv kids K :=
 ⟨N.tk.ext hx,cM N.row hx,N.new,fun g hg => (N.ok g hg).bw (Bw.of hx fun z hz => N.tk.und z (.inr hz)) fun z hz => hz,N.out⟩
theorem Nd.put (N : Nd F H w b k src off ds h cv kids K) (hu : Upd k w w') (hv : Var w' k (h'.cells cv) 26) : Nd F H w' b k src off ds h' cv kids K :=
 ⟨N.tk.put hu hv,fK N.row (Bw.upd (F := fun z => z ≠ k) hu fun hh => hh rfl) fun z hz => (N.out z hz).2.2,N.new,fun g hg => (N.ok g hg).bw (Bw.upd hu fun hf => N.tk.nk (.inr hf)) fun z hz => hz,N.out⟩
theorem Nd.child (N : Nd F H w b k src off ds h cv kids K) (h1 : ∀ z,K2 z → w.heap.size ≤ z) (h3 : Bd (fun z => (FR F K cv z ∨ z = k) ∨ K2 z) w' b src off' ds') (h4 : Bw (fun z => FR F K cv z ∨ z = k) w w') (hH : H ≤ w.heap.size) : Nd F H w' b k src off' ds' h cv kids (fun z => K z ∨ K2 z) := by
 refine ⟨⟨h3.sub fun z hz => ?_,aE N.tk.var h4 (.inr rfl),fun hz => ?_⟩,fK N.row h4 fun z hz => .inl (.inr hz),fun z hz => ?_,fun g hg => (N.ok g hg).bw (h4.sub (F := K) fun z hz => .inl (.inl (.inr hz))) (fun z hz => hz) |>.mono fun z hz => .inl hz,fun z hz => ?_⟩
 ·rcases hz with (hz | hz | hz) | hz
  ·exact .inl (.inl (.inl (.inl hz)))
  ·exact .inl (.inl (.inl (.inr hz)))
  ·exact .inr hz
  ·exact .inl (.inr hz)
 ·rcases hz with hz | hz | hz
  ·exact N.tk.nk (.inl hz)
  ·exact N.tk.nk (.inr hz)
  ·have := h1 k hz
   have := N.tk.var.lt;omega
 ·rcases hz with hz | hz
  ·exact N.new z hz
  ·exact Nat.le_trans hH (h1 z hz)
 ·obtain ⟨a,c,d⟩ := N.out z hz
  have hl := jI N.row hz;exact ⟨a,fun e => e.elim c fun e => by have := h1 z e; omega,d⟩
theorem Tk.put2 (T : Tk F w b k src off ds h cv) (hu : Upd k w w') (hv : Var w' k (h'.cells cv') 26) : Tk F w' b k src off ds h' cv' := ⟨T.bd.upd T.var (by decide) (by decide) hu,hv,T.nk⟩
theorem Nd.app {v' : Value} {news : List Value} (N : Nd F H w b k src off ds h cv kids K) (hH : H ≤ w.heap.size) (hap : AppR w 26 7 kids.length 1 cv (aK Mn.cells kids ++ news) v' w') :
  ∃ gk capk spk,v' = .slice (some ⟨gk,0,none⟩) (kids.length + 1) capk ∧ kids.length + 1 ≤ capk ∧ capk ≤ maxLen ∧ spk.length = (capk - (kids.length + 1)) * 7 ∧ Var w' gk (aK Mn.cells kids ++ news ++ spk) 26 ∧ H ≤ gk ∧ k ≠ gk ∧ ¬ F gk ∧ ¬ K gk ∧ Bw (fun z => F z ∨ K z) w w' ∧ Tk (fun z => F z ∨ K z) w' b k src off ds h cv := by
 obtain ⟨gk,capk,spk,rfl,h1,h2,h3,h4,h5⟩ := hap
 rcases h5 with ⟨⟨c,e⟩,hu⟩ | ⟨hge,hx⟩
 ·have hb : cv.ownBlock = some gk := by rw [e]; rfl
  obtain ⟨a1,a2,a3⟩ := N.out gk hb;have hvw : ∃ cs,Var w gk cs 26 := by
   rcases bH N.row with ⟨e2,_⟩ | ⟨g,cap,sp,e2,_,_,_,_,g5⟩
   ·rw [e2] at e; cases e
   ·rw [e2] at e; cases e; exact ⟨_,g5⟩
  obtain ⟨cs,hvw⟩ := hvw;exact ⟨gk,capk,spk,rfl,h1,h2,h3,h4,zJ N.row hb,fun e => a3 e.symm,a1,a2,Bw.upd hu fun hf => hf.elim a1 a2,⟨N.tk.bd.upd hvw (by decide) (by decide) hu,N.tk.var.upd hu fun e => a3 e.symm,N.tk.nk⟩⟩
 ·have hl : ∀ z,(F z ∨ K z) → z < w.heap.size := N.tk.und
  have hk := N.tk.var.lt;exact ⟨gk,capk,spk,rfl,h1,h2,h3,h4,by omega,by omega,fun hf => by have := hl gk (.inl hf); omega,fun hf => by have := hl gk (.inr hf); omega,Bw.of hx hl,N.tk.ext hx⟩
theorem Nd.push {gk capk : Nat} {spk : List Value} (N : Nd F H w b k src off ds h cv kids K) (hm : NOk K w mn) (hB : Bw (fun z => F z ∨ K z) w w') (T : Tk (fun z => F z ∨ K z) w' b k src off ds h (.slice (some ⟨gk,0,none⟩) (kids.length + 1) capk)) (h1 : kids.length + 1 ≤ capk) (h2 : capk ≤ maxLen) (h3 : spk.length = (capk - (kids.length + 1)) * 7)
  (hv : Var w' gk (aK Mn.cells (kids ++ [mn]) ++ spk) 26) (hge : H ≤ gk) (hne : k ≠ gk) (hf : ¬ F gk) (hk : ¬ K gk) : Nd F H w' b k src off ds h (.slice (some ⟨gk,0,none⟩) (kids.length + 1) capk) (kids ++ [mn]) K := by
 refine ⟨T,?_,N.new,fun g hg => ?_,fun z hz => ?_⟩
 ·rw [List.length_append,List.length_singleton]
  exact bK hge ((aQ Mn.len _).trans (by simp)) h1 h2 h3 hv
 ·have hF : NOk K w g := by
   rcases List.mem_append.1 hg with hg | hg
   ·exact N.ok g hg
   ·obtain rfl : g = mn := by simpa using hg
    exact hm
  exact hF.bw (hB.sub fun z hz => .inr hz) fun z hz => hz
 ·cases hz
  exact ⟨hf,hk,Ne.symm hne⟩
theorem Dp {gs : List Mn} {g : Mn} {z sp : List Value} (hz : z.length = 7) : (aK Mn.cells gs ++ z ++ sp).take (gs.length * 7) ++ g.cells ++ (aK Mn.cells gs ++ z ++ sp).drop (gs.length * 7 + g.cells.length) = aK Mn.cells (gs ++ [g]) ++ sp := by
 have hl : (aK Mn.cells gs).length = gs.length * 7 := aQ Mn.len _;rw [rU,← hl,Mn.len,List.append_assoc,List.append_assoc,List.take_left,List.drop_append,List.drop_eq_nil_of_le (by omega),List.nil_append,Nat.add_sub_cancel_left,List.drop_append,List.drop_eq_nil_of_le (by omega),List.nil_append,hz,Nat.sub_self,List.drop_zero,List.append_assoc]
end
theorem Dq {src : ByteArray} {l : List Tr} {i : Nat} (hi : i < l.length) {h : Hd} {off : Int} {ds : List Dg} {r : Hd × List An × Int × List Dg} (hr : eD src (l.take i) h [] off ds = r) :
  eD src (l.take (i + 1)) h [] off ds = if 100 ≤ kd l[i] then ((jD r.1 r.2.2.1 r.2.2.2 (kd l[i]) (tx l[i])).1,r.2.1,(jD r.1 r.2.2.1 r.2.2.2 (kd l[i]) (tx l[i])).2.1,(jD r.1 r.2.2.1 r.2.2.2 (kd l[i]) (tx l[i])).2.2)
   else (ext r.1 (gV src l[i] r.2.2.1 r.2.2.2).1.hd.st (gV src l[i] r.2.2.1 r.2.2.2).1.hd.en,r.2.1 ++ [(gV src l[i] r.2.2.1 r.2.2.2).1],(gV src l[i] r.2.2.1 r.2.2.2).2.1,(gV src l[i] r.2.2.1 r.2.2.2).2.2) := by
 rw [List.take_succ_eq_append_getElem hi,qC,hr,eD]
 split <;> simp [eD]
theorem rV : ∀ {l : List Tr} {t : Tr},fY l → t ∈ l → (if 100 ≤ kd t then rT (kd t) (tx t) else fine t)
 | a :: l,t,h,hm => by
  simp only [fY] at h
  rcases List.mem_cons.1 hm with rfl | hm
  ·exact h.1
  ·exact rV h.2 hm
theorem Jj (g : Mn) : g.er.hd = g.hd := by cases g; rfl
theorem qD : ∀ l : List Tr,l.length ≤ fN l
 | [] => Nat.le_refl 0
 | ⟨k,x,ks⟩ :: l => by
  have := qD l;simp only [fN,Tr.cnt,List.length_cons];omega
theorem Hg : ∀ (l : List Tr) (i : Nat) (h : i < l.length),fN (l.take i) + l[i].cnt ≤ fN l ∧ (gK (l.take i)).length + l[i].txt.length ≤ (gK l).length
 | t :: l,0,h => by simp [fN,gK]
 | t :: l,i + 1,h => by
  have := Hg l i (by simpa using h);simp only [List.take_succ_cons,fN,gK,List.length_append,List.getElem_cons_succ];omega
theorem vS : ∀ (l : List Tr) (i : Nat),qQ l → qQ (l.take i)
 | [],i,h => by simpa using h
 | t :: l,0,h => by simp [qQ]
 | t :: l,i + 1,h => by
  simp only [List.take_succ_cons,qQ] at h ⊢;exact ⟨h.1,vS l i h.2⟩
theorem Dr : ∀ (l : List Tr) (i : Nat) (h : i < l.length),qQ l → l[i].wf
 | t :: l,0,h,hw => by simp only [qQ] at hw; exact hw.1
 | t :: l,i + 1,h,hw => by simp only [qQ] at hw; exact Dr l i (by simpa using h) hw.2
theorem tI (src : ByteArray) : ∀ (l : List Tr) (h : Hd) (ns : List An) (off : Int) (ds : List Dg),(ns ≠ [] ∨ ∃ c ∈ l,kd c < 100) → (eD src l h ns off ds).2.1 ≠ []
 | [],h,ns,off,ds,hc => by
  rcases hc with hc | ⟨c,hc,_⟩
  ·rw [eD]; exact hc
  ·cases hc
 | t :: l,h,ns,off,ds,hc => by
  rw [eD]
  by_cases h1 : 100 ≤ kd t
  ·rw [if_pos h1]
   refine tI src l _ _ _ _ (hc.imp id ?_);rintro ⟨c,hm,hk⟩
   rcases List.mem_cons.1 hm with rfl | hm
   ·omega
   ·exact ⟨c,hm,hk⟩
  ·rw [if_neg h1]
   exact tI src l _ _ _ _ (.inl (by simp))
def Ds (F : Fs) (w : World) (b : Nat) (src : ByteArray) (t : Tr) (off : Int) (ds : List Dg) (u : Value) (w' : World) : Prop :=
 ∃ (mn : Mn) (K : Fs),u = .agg mn.cells.toArray ∧ mn.er = (gV src t off ds).1 ∧ (∀ z,K z → w.heap.size ≤ z) ∧ NOk K w' mn ∧ Bd (fun z => F z ∨ K z) w' b src (gV src t off ds).2.1 (gV src t off ds).2.2 ∧ Bw F w w'
set_option maxHeartbeats 1000000 in
theorem sW : ∀ (m : Nat) (g : Gt),g.er.cnt ≤ m → ∀ (F : Fs) (w : World) (b : Nat) (src : ByteArray) (off : Int) (ds : List Dg),g.er.wf → kd g.er < 100 → fine g.er → Bd F w b src off ds → GOk F w g → Er w → F 4 → 0 ≤ off → off + g.er.txt.length ≤ src.size → src.size ≤ 2000 → ds.length + g.er.cnt + g.er.txt.length < 900000 →
  Cl Tryz.prog 22 #[.pointer (some ⟨b,0,none⟩),.agg g.cells.toArray] w (Ds F w b src g.er off ds) := by
 intro m
 induction m with
 | zero =>
  intro g hn
  cases g
  simp [Gt.er,Tr.cnt] at hn
 | succ m ih =>
  intro g hn F w b src off ds hwf hkd hfi hb hg hE h4 ho hoe hsz hds;obtain ⟨k0,x0,tv,l⟩ := g;obtain ⟨hs1,h1,hb1,hk1⟩ : SlC w tv 3 l.length (aK Gt.cells l) ∧ tv.oneCell' = true ∧ gI F tv ∧ ∀ g ∈ l,GOk F w g := by cases hg with | mk a b c d => exact ⟨a,b,c,d⟩
  simp only [Gt.er,kd] at hkd;simp only [Gt.er,Tr.wf] at hwf
  rcases hwf with ⟨h100,_⟩ | ⟨_,_,hx0,hwl⟩
  ·omega
  simp only [Gt.er,fine] at hfi;have hx00 : x0.data.toList.length = 0 := by rw [hx0]; rfl
  simp only [Gt.er,Tr.cnt,Tr.txt,List.length_append,hx00] at hn hoe hds;have hll := qD (kS l);rw [oX] at hll;have hx := Ext.refl w;have hU := hb.und;have hc0 : gV src (Gt.er (.mk k0 x0 tv l)) off ds = kN src (eD src (kS l) (qA k0 off) [] off ds) := rfl;refine Cl.enter Tryz.func22 rfl Tryz.ntmps22 rfl rfl (.sr (Rg.wd trivial (aW (cs := (Gt.mk k0 x0 tv l).cells) rfl rfl) rfl ?_));rintro _ w1 ⟨p3,rfl,q3,hx1,hv3⟩;have g3 : w.heap.size ≤ p3 := by omega
  replace hb := hb.add (k := p3) hx1 (Nat.le_of_eq q3.symm) hv3.lt;replace hx := hx.ext hx1;replace hs1 := hs1.ext hx1;refine Rg.wd trivial (dB Tryz.zeroValue26 rfl) rfl ?_;rintro _ w2 ⟨p4,rfl,q4,hx2,hv4⟩;have g4 : w.heap.size ≤ p4 := by have := hx1.le; omega
  replace hb := hb.add (k := p4) hx2 (Nat.le_of_eq q4.symm) hv4.lt;obtain ⟨F1,o⟩ : ∃ F1 : Fs,(fun z => (F z ∨ z = p3) ∨ z = p4) = F1 := ⟨_,rfl⟩;have f4 : F1 p4 := by rw [← o]; exact .inr rfl
  have fs : ∀ z,F z → F1 z := fun z hz => by rw [← o]; exact .inl (.inl hz)
  have fu : ∀ z,F1 z → z < w2.heap.size := by rw [← o]; exact hb.und
  rw [o] at hb;have hbv := hb.choose_spec.var;replace hx := hx.ext hx2;replace hs1 := hs1.ext hx2;replace hv3 := hv3.ext hx2;refine .done (.sr (.m2 rfl (.t2 (aF rfl) (.t2 (aA cQ rfl) (.t2 (aB bA rfl (hbv.g 1 rfl)) (.a2 rfl (.done (.sr (.t2 (aA iZ rfl) (.t2 (aB bA rfl (hv3.g 0 rfl)) (.m2 rfl (.t2 (cH (sS _ _ _ _) rfl) ?_))))))))))));refine Rg.wd trivial (dB Tryz.zeroValue26 rfl) rfl ?_;rintro _ wa6 ⟨p6,rfl,q6,s,t⟩;refine Rg.wn trivial (cW (cs := (qA k0 off).cells (.slice none 0 0)) t rfl rfl rfl cC rfl rfl) ?_;rintro _ w3 ⟨hu6,hv6⟩;have hx3 := s.upd hu6 (Nat.le_of_eq q6.symm);have hb3 := hb.add (k := p6) hx3 (Nat.le_of_eq q6.symm) hv6.lt;have g6 : w.heap.size ≤ p6 := by have := hx.le; omega
  have lt4 := hv4.lt;have n46 : p4 ≠ p6 := by omega
  have nf6 : ¬ F1 p6 := fun hf => by have := fu p6 hf; omega
  clear t hu6 s;replace hx := hx.ext hx3;replace hs1 := hs1.ext hx3;replace hv3 := hv3.ext hx3;replace hv4 := hv4.ext hx3;replace hbv := hbv.ext hx3;refine .done (.seq (.sr (.t2 (aA gE rfl) (.t2 (aB eH rfl (hv3.g 2 rfl)) (.t2 (dD hs1 Tryz.underlying52 rfl) (.m2 rfl (.done (Wp.block ?_))))))));have N0 : Nd F1 w3.heap.size w3 b p6 src off ds (qA k0 off) (.slice none 0 0) [] (fun _ => False) := ⟨⟨hb3.sub fun z hz => hz.elim (fun hz => hz.elim .inl fun h => h.elim) .inr,hv6,fun hz => hz.elim nf6 id⟩,sO _ _ _ _,fun z hz => hz.elim,fun g hg => absurd hg List.not_mem_nil,fun z hz => by cases hz⟩;have hB0 : Bw F w w3 := Bw.of hx hU;have hi0 : Inv (qA k0 off) off off := ⟨Int.le_refl _,Int.le_refl _,by show (-1 : Int) ≤ off; omega,.inl (show (-1 : Int) < 0 by decide)⟩;refine Wp.loop (ι := Nat) (fun i => [(0,.pointer (some ⟨b,0,none⟩)),(4,.pointer (some ⟨p4,0,none⟩)),(6,.pointer (some ⟨p6,0,none⟩)),(19,tv),(20,.int .i64 l.length),(21,.int .i64 i)])
   (fun i w' => i ≤ l.length ∧ ∃ cv kids K,Nd F1 w3.heap.size w' b p6 src (eD src ((kS l).take i) (qA k0 off) [] off ds).2.2.1 (eD src ((kS l).take i) (qA k0 off) [] off ds).2.2.2 (eD src ((kS l).take i) (qA k0 off) [] off ds).1 cv kids K ∧ dM kids = (eD src ((kS l).take i) (qA k0 off) [] off ds).2.1 ∧ kids.length ≤ i ∧ Bw F1 w3 w')
   (fun i => l.length - i) 0 (by repeat (first | exact .nil | refine .cons rfl ?_)) ⟨Nat.zero_le _,_,_,_,N0,rfl,Nat.le_refl _,Bw.refl _ _⟩ ?_
  rintro i w4 ⟨hi,cv,kids,K,N,hmk,hkl,hB⟩;obtain ⟨r,hr⟩ : ∃ r,eD src ((kS l).take i) (qA k0 off) [] off ds = r := ⟨_,rfl⟩;rw [hr] at N hmk;have hEl : (kS l).length = l.length := oX l;obtain ⟨iv,iof,idl,ikd⟩ := lI src ((kS l).take i) (qA k0 off) [] off ds off ho hi0 (vS _ i hwl);rw [hr] at iv iof idl ikd;have hsz4 := hB.size;have hE4 : Er w4 := (hE.bw hB0 h4).bw hB (fs 4 h4);have hsL : SlC w4 tv 3 l.length (aK Gt.cells l) := iL hs1 (hB.sub fs) hb1
  by_cases hlt : i < l.length
  ·obtain ⟨⟨kg,xg,vg,lg⟩,hgm,hge⟩ : ∃ g,g ∈ l ∧ g = l[i] := ⟨_,List.getElem_mem hlt,rfl⟩
   have hgi : (kS l)[i]'(by omega) = Gt.er (.mk kg xg vg lg) := by
    simp only [hZ,List.getElem_map];rw [hge]
   have hgk4 : GOk F w4 (.mk kg xg vg lg) := GOk.bw (hk1 _ hgm) (hB0.trans (hB.sub fs)) fun z hz => hz;have hgo : (Gt.mk kg xg vg lg).cells.all (·.oneCell') = true := List.all_eq_true.2 hgk4.one;have hgw := Dr (kS l) i (by omega) hwl;have hgf := rV hfi.2 (List.getElem_mem (show i < (kS l).length by omega));obtain ⟨hac,hat⟩ := Hg (kS l) i (by omega);have hone := Dq (show i < (kS l).length by omega) hr;rw [hgi] at hgw hac hat hone hgf;have hU4 : Und F1 w4.heap.size := fun z hz => N.tk.und z (.inl hz);have hxg : xg.size ≤ (Gt.er (.mk kg xg vg lg)).txt.length := by
    simp only [Gt.er,Tr.txt,List.length_append];have : xg.data.toList.length = xg.size := by rw [Array.length_toList]; rfl
    omega
   have hxx := Ext.refl w4;refine .sr ?_
   first | refine .tq (bN rfl rfl (by omega)) rfl ?_ | refine .tq (bO rfl rfl (by omega)) rfl ?_ | refine .tq (cT rfl rfl) rfl ?_
   refine .done (.seq (.condT rfl (Wp.skip (.seq (Wp.block (.sr ?_))))));refine Rg.ix hsL trivial rfl rfl Tryz.underlying52 dA (by omega) rfl ?_;intro bt23 ot23 ht23;rw [Int.toNat_natCast,eA Gt.len l i hlt,← hge] at ht23;refine .t2 (bB rfl ht23 (by exact dA)) ?_;refine Rg.wd trivial (dB Tryz.zeroValue54 rfl) rfl ?_;rintro _ wab8 ⟨b8,rfl,qb8,f,n⟩;refine Rg.wn trivial (cW (cs := (Gt.mk kg xg vg lg).cells) n rfl rfl rfl (by rw [Gt.len]; exact dA) (by rw [Gt.len]; rfl) (hgo)) ?_;rintro _ w5 ⟨hub8,hvb8⟩;have hx5 := f.upd hub8 (Nat.le_of_eq qb8.symm);clear n hub8 f;replace N := N.ext hx5;replace hxx := hxx.ext hx5;replace ht23 := ht23.ext hx5;clear qb8;refine .done (.seq ?_);have hB8 := uC hB hxx (show Und F1 w3.heap.size from fun z hz => Nat.lt_of_lt_of_le (fu z hz) hx3.le);have hE8 := hE4.bw (Bw.of hxx hU4) (fs 4 h4);have hgk : GOk F w5 (.mk kg xg vg lg) := GOk.bw hgk4 ((Bw.of hxx hU4).sub fs) fun z hz => hz
   by_cases hkg : 100 ≤ kg
   ·have hone2 := hone.trans (if_pos hkg)
    have htok : rT kg xg := by have := hgf; rw [if_pos (show 100 ≤ kd (Gt.er (.mk kg xg vg lg)) from hkg)] at this; exact this
    refine .sr (.t2 (aA iZ rfl) (.t2 (aB bA rfl (hvb8.g 0 rfl)) ?_));refine .t2 (cP rfl rfl (by omega)) ?_;refine .done (.condT rfl (.sr (.m2 rfl ?_)));refine .t2 (bB rfl hvb8.cells (by exact dA)) ?_;refine Rg.wd trivial (aC Tryz.call38 rfl (Dn N.full hE8 (.inl (.inl (fs 4 h4))) (by omega) (by omega) (by omega) htok hkg)) rfl ?_;rintro _ w8 ⟨T8,hB9⟩;have N8 := N.back T8 hB9;have hBe := hB8.trans (hB9.sub fun z hz => .inl (.inl hz));refine .done (Wp.exit (Wp.region ?_))
    first | refine .tq (bC rfl rfl (by omega)) rfl ?_ | refine .tq (bV rfl rfl) rfl ?_
    refine .m2 rfl (.done ?_);refine ⟨i + 1,by repeat (first | exact .nil | refine .cons rfl ?_),⟨hlt,cv,kids,K,?_,?_,by omega,hBe⟩,by omega⟩
    ·rw [hone2]; exact N8
    ·rw [hone2]; exact hmk
   ·have hone2 := hone.trans (if_neg hkg)
    have hgn : fine (Gt.er (.mk kg xg vg lg)) := by have := hgf; rw [if_neg (show ¬ 100 ≤ kd (Gt.er (.mk kg xg vg lg)) from hkg)] at this; exact this
    refine .sr (.t2 (aA iZ rfl) (.t2 (aB bA rfl (hvb8.g 0 rfl)) ?_));refine .t2 (eO rfl rfl (by omega)) ?_;refine .done (.condF rfl (Wp.skip (.sr (.m2 rfl ?_))));refine .t2 (bB rfl hvb8.cells (by exact dA)) ?_;refine Rg.wd trivial (aC Tryz.call22 rfl (ih (.mk kg xg vg lg) (by omega) (fun z => FR F1 K cv z ∨ z = p6) _ b src r.2.2.1 r.2.2.2 hgw (by show kg < 100; omega) hgn N.full.bd (GOk.mono hgk fun z hz => .inl (.inl (.inl (fs z hz)))) hE8 (.inl (.inl (.inl (fs 4 h4)))) (by omega) (by omega) hsz (by omega))) rfl ?_;rintro _ w9 ⟨mn,K2,rfl,hme,hK2,hmn,hbd,hB9⟩;have N9 := N.child hK2 hbd hB9 (by have := hxx.le; omega);have hm : NOk (fun z => K z ∨ K2 z) w9 mn := hmn.mono fun z hz => .inr hz;have hBe := hB8.trans (hB9.sub fun z hz => .inl (.inl (.inl hz)));obtain ⟨KK,hKK⟩ : ∃ q : Fs,(fun z => K z ∨ K2 z) = q := ⟨_,rfl⟩;rw [hKK] at N9 hm;clear N hmn hbd hKK;have N := N9;clear N9;obtain ⟨r1,hr1⟩ : ∃ q,(gV src (Gt.er (.mk kg xg vg lg)) r.2.2.1 r.2.2.2).2.1 = q := ⟨_,rfl⟩;obtain ⟨r2,hr2⟩ : ∃ q,(gV src (Gt.er (.mk kg xg vg lg)) r.2.2.1 r.2.2.2).2.2 = q := ⟨_,rfl⟩;rw [hr1,hr2] at N;obtain ⟨mh,mcv,mks⟩ := mn;have hmo := hm.oneL;have hmu := hm.one;have hUe : Und F1 w3.heap.size := fun z hz => Nat.lt_of_lt_of_le (fu z hz) hx3.le;refine Rg.wd trivial (dB Tryz.zeroValue26 rfl) rfl ?_;rintro _ wa9 ⟨p9,rfl,q9,u,v⟩;refine Rg.wn trivial (cW (cs := (Mn.mk mh mcv mks).cells) v rfl rfl rfl (by rw [Mn.len]; exact cC) (by rw [Mn.len]; rfl) hmo) ?_;rintro _ w10 ⟨hu10,hv9⟩;have hx10 := u.upd hu10 (Nat.le_of_eq q9.symm);have lt6 := N.tk.var.lt;have n96 : p9 ≠ p6 := by omega
    have g9 : w3.heap.size ≤ p9 := by have := hBe.size; omega
    have hm10 : NOk KK w10 (.mk mh mcv mks) := hm.bw (Bw.of hx10 fun z hz => N.tk.und z (.inr hz)) fun z hz => hz;replace N := N.ext hx10;replace hBe := uC hBe hx10 hUe;clear hm v hu10 u;have hm := hm10;clear hm10;refine .done (.sr (.t2 (aA eU rfl) (.t2 (aB bA rfl (hv9.g 3 rfl)) (.t2 (aA dV rfl) (.t2 (aB bA rfl (hv9.g 4 rfl)) (Rg.wd trivial (aC Tryz.call39 rfl (iU N.tk.var)) rfl ?_))))));rintro _ w11 ⟨hv11,hu11⟩;have hm11 : NOk KK w11 (.mk mh mcv mks) := hm.bw (Bw.upd hu11 fun hf => N.tk.nk (.inr hf)) fun z hz => hz;replace hBe := hBe.trans (Bw.upd hu11 nf6);replace N := N.put hu11 hv11;replace hv9 := hv9.upd hu11 n96;clear hm hv11 hu11;have hm := hm11;clear hm11;obtain ⟨h2,hh2⟩ : ∃ q,ext r.1 mh.st mh.en = q := ⟨_,rfl⟩;rw [hh2] at N;refine .done ?_;obtain ⟨i27,hi27,hz27,hsi27,hby27⟩ := Cr;obtain ⟨pc,cc,hcv⟩ : ∃ p q,cv = .slice p kids.length q := by
     rcases bH N.row with ⟨e,h0⟩ | ⟨_,_,_,e,_⟩
     ·exact ⟨none,0,by rw [e,h0]⟩
     ·exact ⟨_,_,e⟩
    subst hcv;have hv6z := N.tk.var;have hxq := Ext.refl w11;have N0u : ∀ z,KK z → z < w11.heap.size := fun z hz => N.tk.und z (.inr hz);refine Wp.cut (fun L w' => ∃ i_ : Unit,Sub ((fun _ => [(0,.pointer (some ⟨b,0,none⟩)),(4,.pointer (some ⟨p4,0,none⟩)),(6,.pointer (some ⟨p6,0,none⟩)),(19,tv),(20,.int .i64 l.length),(21,.int .i64 i)]) i_) L ∧ (fun _ w' => (∃ cv',Nd F1 w3.heap.size w' b p6 src r1 r2 h2 cv' (kids ++ [.mk mh mcv mks]) KK) ∧ Bw F1 w3 w') i_ w') ?_ ?_
    ·skip
     refine Wp.drawB (fun w' => Var w' p6 (h2.cells (.slice pc kids.length cc)) 26 ∧ Var w' p9 (Mn.mk mh mcv mks).cells 26) 5 mixed ?_;intro w12 hx12 hh12;replace N := N.ext hx12;replace hv6z := hv6z.ext hx12;replace hv9 := hv9.ext hx12;replace hxq := hxq.ext hx12;refine ⟨⟨hv6z,hv9⟩,?_⟩;replace hBe := uC hBe hxq hUe;have hmq : NOk KK _ (.mk mh mcv mks) := hm.bw (Bw.of hxq fun z hz => N0u z hz) fun z hz => hz;clear hm;have hm := hmq;clear hmq;refine Qb.tameW (by kernel_rfl) 0 rfl (by kernel_rfl) trivial (bY fun wz => aA eP rfl) rfl ?_;refine Qb.tame (by kernel_rfl) 1 rfl (by kernel_rfl) trivial (ts fun wz hkz => by exact aB iK rfl (hkz.1.g 6 rfl)) rfl ?_;refine Qb.tame (by kernel_rfl) 2 rfl (by kernel_rfl) trivial (ts fun wz hkz => by exact bB rfl hkz.2.cells (by exact cC)) rfl ?_;refine Qb.tame (by kernel_rfl) 3 rfl (by kernel_rfl) trivial (ts fun wz hkz => by exact dC Tryz.underlying24 rfl) rfl ?_;refine Qb.alt1 (i := 4) (by kernel_rfl) ?_;refine ⟨_,_,rfl,rfl,trivial,aD (mN _ _ _ _ _ _ _ _ _) rfl,rfl,fun _ _ hr => by obtain ⟨_,_,_,hr,_⟩ := hr; exact ⟨N.tk.var.ext hr,hv9.ext hr⟩,?_⟩;rintro _ w13 ⟨bb,rfl,qbb,hx13,hvbb⟩;have hm13 : NOk KK w13 (.mk mh mcv mks) := hm.bw (Bw.of hx13 fun z hz => N.tk.und z (.inr hz)) fun z hz => hz;replace N := N.ext hx13;replace hBe := uC hBe hx13 hUe;clear hm;have hm := hm13;clear hm13;refine Qb.bar (fun _ => True) 5 10 rfl (by kernel_rfl) rfl trivial (bL Tryz.underlying24 hi27 hz27 hsi27 hby27 rfl rfl rfl (uS N.row (Nat.zero_le _)) (bX hvbb rfl) (by decide) (by decide) (by unfold maxLen; omega) (by omega)) rfl (fun _ _ _ => trivial) ?_;rintro v2 wP hap;obtain ⟨gk,capk,spk,rfl,hck,hmk2,hlk,hvk,hgeA,hne,nfg,nkg,hBP,TP⟩ := N.app (by have := hBe.size; omega) hap;have hoE : 0 + ((kids.length : Int)).toNat * 7 = kids.length * 7 := by omega
     have hKl : (aK Mn.cells kids ++ [Value.int .i64 0,Value.int .i64 0,Value.string ⟨#[]⟩,Value.int .i64 0,Value.int .i64 0,Value.int .i64 0,Value.slice none 0 0] ++ spk).length = kids.length * 7 + 7 + spk.length := by rw [List.length_append,List.length_append,aQ Mn.len]; rfl
     refine Qb.tameW (by kernel_rfl) 6 rfl (by kernel_rfl) trivial (bY fun wz => bI Tryz.underlying24 cC rfl rfl (by omega)) rfl ?_;refine Qb.tameW (by kernel_rfl) 8 rfl (by kernel_rfl) trivial (bY fun wz => aA eP rfl) rfl ?_;refine Qb.alt2 (i := 7) (j := 9) (by kernel_rfl) ?_ ?_
     ·skip
      refine ⟨_,_,rfl,rfl,trivial,dZ (cs := (Mn.mk mh mcv mks).cells) hvk rfl rfl rfl (by rw [Mn.len]; exact cC) (by rw [hoE,hKl,Mn.len]; omega) hmu,rfl,fun _ _ h => trivial,?_⟩;rintro _ wE ⟨huE,hvE⟩;rw [hoE] at hvE;replace hvE : Var wE gk (aK Mn.cells (kids ++ [.mk mh mcv mks]) ++ spk) 26 := (Dp (gs := kids) (g := .mk mh mcv mks) (z := [Value.int .i64 0,Value.int .i64 0,Value.string ⟨#[]⟩,Value.int .i64 0,Value.int .i64 0,Value.int .i64 0,Value.slice none 0 0]) (sp := spk) rfl) ▸ hvE;replace TP : Tk (fun z => F1 z ∨ KK z) wE b p6 src r1 r2 _ _ := ⟨TP.bd.upd hvk (by decide) (by decide) huE,TP.var.upd huE hne,TP.nk⟩;clear hvk;have hvk := hvE;clear hvE;replace hBP := hBP.trans (Bw.upd huE fun hf => hf.elim nfg nkg);refine Qb.alt1 (i := 9) (by kernel_rfl) ?_;refine ⟨_,_,rfl,rfl,trivial,cG TP.var iK rfl rfl rfl rfl rfl,rfl,fun _ _ h => trivial,?_⟩;rintro _ wS ⟨huS,hvS⟩;simp only [Hd.cells,List.set] at hvS;replace hvk := hvk.upd huS (Ne.symm hne);have nk6 := TP.nk;replace TP : Tk (fun z => F1 z ∨ KK z) wS b p6 src r1 r2 h2 (.slice (some ⟨gk,0,none⟩) (kids.length + 1) capk) := TP.put2 huS hvS;replace hBP := hBP.trans (Bw.upd huS nk6);refine Qb.done (by kernel_rfl) ?_;exact ⟨(),by repeat (first | exact .nil | refine .cons rfl ?_),⟨_,N.push hm hBP TP hck hmk2 hlk hvk hgeA hne nfg nkg⟩,hBe.trans (hBP.sub fun z hz => .inl hz)⟩
     ·skip
      refine ⟨_,_,rfl,rfl,trivial,cG TP.var iK rfl rfl rfl rfl rfl,rfl,fun _ _ h => trivial,?_⟩;rintro _ wS ⟨huS,hvS⟩;simp only [Hd.cells,List.set] at hvS;replace hvk := hvk.upd huS (Ne.symm hne);have nk6 := TP.nk;replace TP : Tk (fun z => F1 z ∨ KK z) wS b p6 src r1 r2 h2 (.slice (some ⟨gk,0,none⟩) (kids.length + 1) capk) := TP.put2 huS hvS;replace hBP := hBP.trans (Bw.upd huS nk6);refine Qb.alt1 (i := 7) (by kernel_rfl) ?_;refine ⟨_,_,rfl,rfl,trivial,dZ (cs := (Mn.mk mh mcv mks).cells) hvk rfl rfl rfl (by rw [Mn.len]; exact cC) (by rw [hoE,hKl,Mn.len]; omega) hmu,rfl,fun _ _ h => trivial,?_⟩;rintro _ wE ⟨huE,hvE⟩;rw [hoE] at hvE;replace hvE : Var wE gk (aK Mn.cells (kids ++ [.mk mh mcv mks]) ++ spk) 26 := (Dp (gs := kids) (g := .mk mh mcv mks) (z := [Value.int .i64 0,Value.int .i64 0,Value.string ⟨#[]⟩,Value.int .i64 0,Value.int .i64 0,Value.int .i64 0,Value.slice none 0 0]) (sp := spk) rfl) ▸ hvE;replace TP : Tk (fun z => F1 z ∨ KK z) wE b p6 src r1 r2 _ _ := ⟨TP.bd.upd hvk (by decide) (by decide) huE,TP.var.upd huE hne,TP.nk⟩;clear hvk;have hvk := hvE;clear hvE;replace hBP := hBP.trans (Bw.upd huE fun hf => hf.elim nfg nkg);refine Qb.done (by kernel_rfl) ?_;exact ⟨(),by repeat (first | exact .nil | refine .cons rfl ?_),⟨_,N.push hm hBP TP hck hmk2 hlk hvk hgeA hne nfg nkg⟩,hBe.trans (hBP.sub fun z hz => .inl hz)⟩
    ·rintro L' wF ⟨_,hs,⟨cv2,hN2⟩,hBF⟩
     refine Wp.sub hs (Wp.region ?_)
     first | refine .tq (bC rfl rfl (by omega)) rfl ?_ | refine .tq (bV rfl rfl) rfl ?_
     refine .m2 rfl (.done ?_);refine ⟨i + 1,by repeat (first | exact .nil | refine .cons rfl ?_),⟨hlt,cv2,kids ++ [.mk mh mcv mks],KK,?_,?_,by simp; omega,hBF⟩,by omega⟩
     ·rw [hone2,← hme,Jj,hr1,hr2]
      simp only [Mn.hd];rw [hh2];exact hN2
     ·rw [hone2,kP,hmk,← hme]
      rfl
  ·obtain rfl : i = l.length := by omega
   rw [show (kS l).take l.length = kS l from by rw [← hEl,List.take_length]] at hr iof idl;rw [hr] at hc0;refine .sr ?_;refine .t2 (bO rfl rfl (by omega)) ?_;refine .done (.seq (.condF rfl (Wp.exit (.sr (.t2 (aA dV rfl) (.t2 (aB bA rfl (N.tk.var.g 4 rfl)) (.t2 (aA eU rfl) (.t2 (aB bA rfl (N.tk.var.g 3 rfl)) (.t2 (Hw rfl rfl) (.t2 (aA dV rfl) (Rg.wn trivial (cG N.tk.var bA rfl rfl rfl rfl rfl) ?_)))))))))));rintro _ w5 ⟨hu5,hv5⟩;simp only [Hd.cells,List.set] at hv5;replace hB := hB.trans (Bw.upd hu5 nf6);replace N := N.put (h' := kU r.1) hu5 hv5;have hmax1 : r.1.st ≤ max r.1.en r.1.st := Int.le_max_right _ _;have hmax2 : max r.1.en r.1.st ≤ r.2.2.1 := Int.max_le.2 ⟨iv.c,iv.b⟩;have hcv1 : cv.oneCell' = true := by
    rcases bH N.row with ⟨e,_⟩ | ⟨_,_,_,e,_⟩ <;> rw [e] <;> rfl
   have hnk : NOk (fun z => K z ∨ cv.ownBlock = some z) w5 (.mk (kU r.1) cv kids) := .mk (iP N.row) hcv1 (fun b hb => .inr hb) fun g hg => (N.ok g hg).mono fun z hz => .inl hz;have h60 : (kU r.1).kind = 60 → kids ≠ [] := fun h => by
    have hk0 : k0 = 60 := by have : r.1.kind = k0 := ikd; rw [← this]; exact h
    have := tI src (kS l) (qA k0 off) [] off ds (.inr (hfi.1 hk0));rw [hr,← hmk] at this;intro e;rw [e] at this;exact this rfl
   refine .done (.sr (.m2 rfl ?_));refine .t2 (bB rfl N.tk.var.cells (by exact cC)) ?_;refine Rg.wd trivial (aC Tryz.call40 rfl (jT (F := FR F1 K cv) (N.full.bd.sub fun z hz => .inl hz) (fun z hz => hz.elim (fun hz => .inl (.inr hz)) .inr) hnk h60 (by omega) ⟨by show 0 ≤ r.1.st; have := iv.a; omega,hmax1,by show max r.1.en r.1.st ≤ src.size; omega⟩ (by omega))) rfl ?_;rintro _ w6 ⟨⟨mf,rfl,hmf,hnf⟩,hbf,hBf⟩;have hv4e := aE (aE hv4 hB f4) hBf (.inl (.inl f4));have hfo := hnf.oneL;refine Rg.wn trivial (cW (cs := mf.cells) hv4e rfl rfl rfl (by rw [Mn.len]; exact cC) (by rw [Mn.len]; rfl) hfo) ?_;rintro _ w7 ⟨hu7,hv7⟩;refine .done (Wp.ret ?_);have hnq : ∀ z,(K z ∨ cv.ownBlock = some z) → w3.heap.size ≤ z := fun z hz => hz.elim (N.new z) (zJ N.row);have hl43 := hv4.lt;rw [hmk] at hmf hbf;have hR : Ds F w b src (Gt.er (.mk k0 x0 tv l)) off ds (.agg mf.cells.toArray) w7 := by
    unfold Ds;rw [hc0];exact ⟨mf,fun z => K z ∨ cv.ownBlock = some z,rfl,hmf,fun z hz => Nat.le_trans hx.le (hnq z hz),hnf.bw (Bw.upd hu7 fun hz => by have := hnq p4 hz; omega) fun z hz => hz,
    (hbf.sub fun z hz => hz.elim (fun hz => .inl (.inl (fs z hz))) fun hz => hz.elim (fun hz => .inl (.inr hz)) .inr).upd hv4e (by decide) (by decide) hu7,
    (((hB0.trans (hB.sub fs)).trans (hBf.sub fun z hz => .inl (.inl (fs z hz)))).trans (Bw.upd hu7 fun hf => by have := hU p4 hf; omega))⟩
   exact ⟨[_],⟨⟨_,rfl,kM hv7 (by rw [Mn.len]; exact cC)⟩,trivial⟩,hR⟩
theorem lU {w : World} {x : Int} : Cl Tryz.prog 99 #[.int .i64 x] w (fun u w' => u = .bool false ∧ w = w') := by
 refine Cl.enter Tryz.func99 rfl Tryz.ntmps99 rfl rfl (.sr (.a2 rfl (.done (.sr (.m2 rfl (.m2 rfl ?_))))))
 first | refine .tq (dX rfl rfl (by omega)) rfl ?_ | refine .tq (cU rfl rfl (by omega)) rfl ?_ | refine .tq (gS rfl rfl) rfl ?_
 refine .a2 rfl (.done (Wp.ret ?_));exact ⟨[_],⟨rfl,trivial⟩,rfl,rfl⟩
def mP (a b : Int) : Int := if a < b then -1 else if b < a then 1 else 0
theorem oZ {w : World} {x y : Int} : Cl Tryz.prog 44 #[.int .i64 x,.int .i64 y] w (fun u w' => u = .int .i64 (mP x y) ∧ w = w') := by
 unfold mP
 by_cases h1 : x < y
 ·rw [if_pos h1]
  refine Cl.enter Tryz.func44 rfl Tryz.ntmps44 rfl rfl (.sr (.a2 rfl (.done (.sr (.m2 rfl (Rg.wd trivial (aC Tryz.call99 rfl lU) rfl ?_))))));rintro _ _ ⟨rfl,rfl⟩;refine .a2 rfl (.done (.sr (.m2 rfl (Rg.wd trivial (aC Tryz.call99 rfl lU) rfl ?_))));rintro _ _ ⟨rfl,rfl⟩;refine .a2 rfl (.done (.seq (.sr (.m2 rfl (.done (.condF rfl (Wp.skip (.seq (.sr (.m2 rfl (.done (.condF rfl ?_))))))))))));refine Wp.skip (.seq (.sr (.m2 rfl (.m2 rfl ?_))))
  first | refine .tq (bN rfl rfl (by omega)) rfl ?_ | refine .tq (bO rfl rfl (by omega)) rfl ?_ | refine .tq (cT rfl rfl) rfl ?_
  refine .done (.condT rfl (.sr (.a2 rfl (.done (Wp.ret ?_)))));exact ⟨[_],⟨rfl,trivial⟩,rfl,rfl⟩
 ·rw [if_neg h1]
  by_cases h2 : y < x
  ·rw [if_pos h2]
   refine Cl.enter Tryz.func44 rfl Tryz.ntmps44 rfl rfl (.sr (.a2 rfl (.done (.sr (.m2 rfl (Rg.wd trivial (aC Tryz.call99 rfl lU) rfl ?_))))));rintro _ _ ⟨rfl,rfl⟩;refine .a2 rfl (.done (.sr (.m2 rfl (Rg.wd trivial (aC Tryz.call99 rfl lU) rfl ?_))));rintro _ _ ⟨rfl,rfl⟩;refine .a2 rfl (.done (.seq (.sr (.m2 rfl (.done (.condF rfl (Wp.skip (.seq (.sr (.m2 rfl (.done (.condF rfl ?_))))))))))));refine Wp.skip (.seq (.sr (.m2 rfl (.m2 rfl ?_))))
   first | refine .tq (bN rfl rfl (by omega)) rfl ?_ | refine .tq (bO rfl rfl (by omega)) rfl ?_ | refine .tq (cT rfl rfl) rfl ?_
   refine .done (.condF rfl (Wp.skip (.seq (.sr (.m2 rfl (.m2 rfl ?_))))))
   first | refine .tq (gB rfl rfl (by omega)) rfl ?_ | refine .tq (eN rfl rfl (by omega)) rfl ?_ | refine .tq (jF rfl rfl) rfl ?_
   refine .done (.condT rfl (.sr (.a2 rfl (.done (Wp.ret ?_)))));exact ⟨[_],⟨rfl,trivial⟩,rfl,rfl⟩
  ·rw [if_neg h2]
   refine Cl.enter Tryz.func44 rfl Tryz.ntmps44 rfl rfl (.sr (.a2 rfl (.done (.sr (.m2 rfl (Rg.wd trivial (aC Tryz.call99 rfl lU) rfl ?_))))));rintro _ _ ⟨rfl,rfl⟩;refine .a2 rfl (.done (.sr (.m2 rfl (Rg.wd trivial (aC Tryz.call99 rfl lU) rfl ?_))));rintro _ _ ⟨rfl,rfl⟩;refine .a2 rfl (.done (.seq (.sr (.m2 rfl (.done (.condF rfl (Wp.skip (.seq (.sr (.m2 rfl (.done (.condF rfl ?_))))))))))));refine Wp.skip (.seq (.sr (.m2 rfl (.m2 rfl ?_))))
   first | refine .tq (bN rfl rfl (by omega)) rfl ?_ | refine .tq (bO rfl rfl (by omega)) rfl ?_ | refine .tq (cT rfl rfl) rfl ?_
   refine .done (.condF rfl (Wp.skip (.seq (.sr (.m2 rfl (.m2 rfl ?_))))))
   first | refine .tq (gB rfl rfl (by omega)) rfl ?_ | refine .tq (eN rfl rfl (by omega)) rfl ?_ | refine .tq (jF rfl rfl) rfl ?_
   refine .done (.condF rfl (Wp.skip (.sr (.a2 rfl (.done (Wp.ret ?_))))));exact ⟨[_],⟨rfl,trivial⟩,rfl,rfl⟩
def tJ : List Int → Int
 | [] => 0
 | a :: l => if a = 0 then tJ l else a
theorem qE : ∀ (l : List Int) (k : Nat) (hk : k < l.length),(∀ j (h : j < l.length),j < k → l[j] = 0) → l[k] ≠ 0 → tJ l = l[k]
 | a :: l,0,hk,_,h => by rw [tJ,if_neg (by simpa using h)]; rfl
 | a :: l,k + 1,hk,hz,h => by
  have h0 := hz 0 (by simp) (by omega);rw [tJ,if_pos (by simpa using h0)];exact qE l k (by simpa using hk) (fun j hj hjk => by have := hz (j + 1) (by simpa using hj) (by omega); simpa using this) (by simpa using h)
theorem rW : ∀ (l : List Int),(∀ j (h : j < l.length),l[j] = 0) → tJ l = 0
 | [],_ => rfl
 | a :: l,hz => by
  have h0 := hz 0 (by simp);rw [tJ,if_pos (by simpa using h0)];exact rW l fun j hj => by have := hz (j + 1) (by simpa using hj); simpa using this
theorem Jk {w : World} {v : Value} {zs : List Int} (hz : SlC w v 1 zs.length (zs.map (.int .i64))) (hl : zs.length ≤ 1000000) : Cl Tryz.prog 43 #[v] w (fun u w' => u = .int .i64 (tJ zs) ∧ w = w') := by
 refine Cl.enter Tryz.func43 rfl Tryz.ntmps43 rfl rfl (.sr (.a2 rfl (.done (.sr (.a2 rfl (.done (.seq (.sr (.m2 rfl (.t2 (dD hz Tryz.underlying34 rfl) (.m2 rfl (.done ?_))))))))))));refine Wp.block ?_;refine Wp.loop (ι := Nat) (fun k => [(0,v),(3,.int .i64 0),(6,v),(7,.int .i64 zs.length),(8,.int .i64 k)])
  (fun k w' => k ≤ zs.length ∧ (∀ j (h : j < zs.length),j < k → zs[j] = 0) ∧ w = w') (fun k => zs.length - k) 0 (by repeat (first | exact .nil | refine .cons rfl ?_)) ⟨Nat.zero_le _,fun j _ h => absurd h (Nat.not_lt_zero _),rfl⟩ ?_
 rintro k _ ⟨hk,hno,rfl⟩
 by_cases hlt : k < zs.length
 ·by_cases he : zs[k] = 0
  ·skip
   refine .sr ?_
   first | refine .tq (bN rfl rfl (by omega)) rfl ?_ | refine .tq (bO rfl rfl (by omega)) rfl ?_ | refine .tq (cT rfl rfl) rfl ?_
   refine .done (.seq (.condT rfl (Wp.skip (.seq (Wp.block (.sr ?_))))));refine Rg.ix hz trivial rfl rfl Tryz.underlying34 bA (by omega) rfl ?_;intro bt10 ot10 ht10;rw [Int.toNat_natCast,Nat.mul_one,show ((zs.map (Value.int .i64)).drop k).take 1 = [.int .i64 zs[k]] from by rw [List.drop_eq_getElem_cons (by simpa using hlt)]; simp] at ht10;refine .t2 (aB bA rfl (bF.get (i := 0) ht10 rfl)) (.a2 rfl (.done (.sr (.m2 rfl (.m2 rfl (.t2 (cU rfl rfl he) (.done (.condF rfl (Wp.skip (Wp.region ?_))))))))))
   first | refine .tq (bC rfl rfl (by omega)) rfl ?_ | refine .tq (bV rfl rfl) rfl ?_
   refine .m2 rfl (.done ?_);exact ⟨k + 1,by repeat (first | exact .nil | refine .cons rfl ?_),⟨hlt,fun j h hj => by rcases Nat.lt_succ_iff_lt_or_eq.1 hj with c | c; exact hno j h c; subst c; exact he,rfl⟩,by omega⟩
  ·skip
   refine .sr ?_
   first | refine .tq (bN rfl rfl (by omega)) rfl ?_ | refine .tq (bO rfl rfl (by omega)) rfl ?_ | refine .tq (cT rfl rfl) rfl ?_
   refine .done (.seq (.condT rfl (Wp.skip (.seq (Wp.block (.sr ?_))))));refine Rg.ix hz trivial rfl rfl Tryz.underlying34 bA (by omega) rfl ?_;intro bt10 ot10 ht10;rw [Int.toNat_natCast,Nat.mul_one,show ((zs.map (Value.int .i64)).drop k).take 1 = [.int .i64 zs[k]] from by rw [List.drop_eq_getElem_cons (by simpa using hlt)]; simp] at ht10;refine .t2 (aB bA rfl (bF.get (i := 0) ht10 rfl)) (.a2 rfl (.done (.sr (.m2 rfl (.m2 rfl (.t2 (dX rfl rfl he) (.done (.condT rfl (.sr (.m2 rfl (.a2 rfl (.done ?_))))))))))));refine Wp.ret ?_;exact ⟨[_],⟨rfl,trivial⟩,by rw [qE zs k hlt hno he]; rfl,rfl⟩
 ·skip
  refine .sr ?_
  first | refine .tq (bN rfl rfl (by omega)) rfl ?_ | refine .tq (bO rfl rfl (by omega)) rfl ?_ | refine .tq (cT rfl rfl) rfl ?_
  refine .done (.seq (.condF rfl (Wp.exit (.sr (.m2 rfl (.a2 rfl (.done (Wp.ret ?_))))))));exact ⟨[_],⟨rfl,trivial⟩,by rw [rW zs fun j h => hno j h (by omega)]; rfl,rfl⟩
theorem F9 {w w' : World} (h : Ext w w') (hd : w.drawn ≤ w'.drawn) : ∃ q os',w' = Go.Sort.grow (w.drewN q) os' := by
 obtain ⟨h1,h2,h3,h4,h5⟩ := h;refine ⟨w'.drawn - w.drawn,w'.heap.extract w.heap.size w'.heap.size,?_⟩;have hh : w'.heap = w.heap ++ w'.heap.extract w.heap.size w'.heap.size := by
  apply Array.ext_getElem?;intro i
  by_cases hi : i < w.heap.size
  ·rw [Array.getElem?_append_left hi]
   exact h5 i hi
  ·rw [Array.getElem?_append_right (by omega),Array.getElem?_extract]
   by_cases h6 : i < w'.heap.size
   ·rw [if_pos (by omega)]
    congr 1
    omega
   ·rw [if_neg (by omega),Array.getElem?_eq_none (by omega)]
 have hq : w.drawn + (w'.drawn - w.drawn) = w'.drawn := by omega
 unfold Go.Sort.grow World.drewN
 cases w
 cases w'
 simp only at h1 h2 h3 hh hq ⊢;rw [hq,← hh,h1,h2,h3]
theorem zK {w : World} {x : ByteArray} : Cl Tryz.prog 100 #[.string x] w (fun u w' => u = .bool false ∧ w = w') := by
 refine Cl.enter Tryz.func100 rfl Tryz.ntmps100 rfl rfl (.sr (.a2 rfl (.done (.sr (.m2 rfl (.m2 rfl (.t2 (wO rfl rfl) (.a2 rfl (.done (Wp.ret ?_))))))))));exact ⟨[_],⟨rfl,trivial⟩,by simp [Hx],rfl⟩
theorem tlE : (⟨#[]⟩ : ByteArray).toList = [] := by
 unfold ByteArray.toList;rw [ByteArray.toList.loop];rfl
theorem slE : Op.stringOp .lss ⟨#[]⟩ ⟨#[]⟩ = (pure (.bool false) : Sem Value) := by
 simp only [Op.stringOp,tlE];rfl
theorem sgE : Op.stringOp .gtr ⟨#[]⟩ ⟨#[]⟩ = (pure (.bool false) : Sem Value) := by
 simp only [Op.stringOp,tlE];rfl
section
variable {n : Nat} {L : Env} {w : World} {d : Option Tmp} {ty : TypeId} {pos : String} {af : Array Edge} {g : Option (Nat × Bool)}
theorem Ga {t t' : TypeId} {x y : Operand} (hx : cF L x = some (.string ⟨#[]⟩)) (hy : cF L y = some (.string ⟨#[]⟩)) : Tm Tryz.prog n ⟨d,.binOp .lss t x y t',ty,pos,af,g⟩ L w (.bool false) := fun a ha w' _ => by
 simp [execOp,eqGuard,binOp,ha.eval hx,ha.eval hy,slE]
theorem Gb {t t' : TypeId} {x y : Operand} (hx : cF L x = some (.string ⟨#[]⟩)) (hy : cF L y = some (.string ⟨#[]⟩)) : Tm Tryz.prog n ⟨d,.binOp .gtr t x y t',ty,pos,af,g⟩ L w (.bool false) := fun a ha w' _ => by
 simp [execOp,eqGuard,binOp,ha.eval hx,ha.eval hy,sgE]
end
theorem Gc {w : World} : Cl Tryz.prog 45 #[.string ⟨#[]⟩,.string ⟨#[]⟩] w (fun u w' => u = .int .i64 0 ∧ w = w') := by
 refine Cl.enter Tryz.func45 rfl Tryz.ntmps45 rfl rfl (.sr (.a2 rfl (.done (.sr (.m2 rfl (Rg.wd trivial (aC Tryz.call100 rfl zK) rfl ?_))))));rintro _ _ ⟨rfl,rfl⟩;refine .a2 rfl (.done (.sr (.m2 rfl (Rg.wd trivial (aC Tryz.call100 rfl zK) rfl ?_))));rintro _ _ ⟨rfl,rfl⟩;refine .a2 rfl (.done (.seq (.sr (.m2 rfl (.done (.condF rfl (Wp.skip (.seq (.sr (.m2 rfl (.done (.condF rfl ?_))))))))))));refine Wp.skip (.seq (.sr (.m2 rfl (.m2 rfl (.t2 (Ga rfl rfl) (.done (.condF rfl (Wp.skip (.seq (.sr (.m2 rfl (.m2 rfl ?_))))))))))));refine .t2 (Gb rfl rfl) (.done (.condF rfl (Wp.skip (.sr (.a2 rfl (.done (Wp.ret ?_)))))));exact ⟨[_],⟨rfl,trivial⟩,rfl,rfl⟩
section
variable {P : Program} {n : Nat} {L : Env} {w : World} {d : Option Tmp} {ty : TypeId} {pos : String} {af : Array Edge} {g : Option (Nat × Bool)} {N : Kn} {X : Exit → Kn}
theorem vT {t : TypeId} {x : Operand} {v : Value} {cs : List Value} (hx : cF L x = some v) (hc : v.cells = cs.toArray) : Wl P n ⟨d,.box t x,ty,pos,af,g⟩ L w (fun u w' => (∃ b,u = .pointer (some ⟨b,0,none⟩) ∧ Ext w w' ∧ Var w' b cs t) ∧ w.drawn ≤ w'.drawn) := fun a hF Q next hn =>
 G7 hx a hF Q next fun v w' ⟨h1,h2⟩ => hn v w' (by
  subst h1; subst h2; rw [hc];obtain ⟨b,e1,_,e2,e3⟩ := mH.mk w cs t;exact ⟨⟨b,e1,e2,e3⟩,Nat.le_refl _⟩)
theorem qZ {t len e : Nat} {parts : Array (Nat × Operand)} {pv : List (Nat × Value)} {cs : List Value} (h : ∀ w,(Instr.buildSlice t len pv.toArray).run P w = .ok (.slice (some ⟨w.heap.size,0,none⟩) len len) (w.alloc (.cells cs.toArray e))) (hp : (parts.toList.map fun q => (q.1,cF L q.2)) = pv.map fun q => (q.1,some q.2)) :
  Wl P n ⟨d,.buildSlice t len parts,ty,pos,af,g⟩ L w (fun u w' => (∃ b,u = .slice (some ⟨b,0,none⟩) len len ∧ Ext w w' ∧ Var w' b cs e) ∧ w.drawn ≤ w'.drawn) := iD fun a ha => by
 have : (parts.map fun q => (q.1,a.eval q.2)) = pv.toArray := by
  apply Array.toList_inj.1;rw [Array.toList_map]
  show _ = pv
  generalize parts.toList = ps at *;clear h
  induction ps generalizing pv with
  | nil => cases pv <;> simp_all
  | cons p ps ih =>
   cases pv with
   | nil => simp at hp
   | cons q vs =>
    simp only [List.map_cons,List.cons.injEq,Prod.mk.injEq] at hp ⊢;refine ⟨?_,ih hp.2⟩;rw [hp.1.1,ha.eval hp.1.2]
 refine ⟨.slice (some ⟨w.heap.size,0,none⟩) len len,w.alloc (.cells cs.toArray e),?_,⟨w.heap.size,rfl,Ext.alloc _ _,?_⟩,Nat.le_refl _⟩
 ·simp only [execOp]
  rw [show (parts.map fun (i,x) => (i,a.eval x)) = pv.toArray from this];simp [h]
 ·unfold Var World.alloc; simp
theorem Wp.drawM {id : Nat} {aY : Array Oper} (plan : List Nat) (bars : List Nat) (hm : P.follows .mixedOrders = true) (hs : Region.noSelect aY = true)
  (hp : (iW aY bars plan (Array.replicate aY.size false) && Nat.ble plan.length aY.size) = true)
  (h : ∀ w1,Ext w w1 → w1.heap = w.heap → w.drawn ≤ w1.drawn → Rg P aY n (some bars) N (dN aY plan) L w1) : Wp P n (.region id aY true) N X L w := Wp.regionD plan bars hm hs hp (h _ (Ext.drew w) rfl (Nat.le_succ _))
end
def rA (a b : Dg) : Int := tJ [mP 0 0,mP a.2.1 b.2.1,mP a.2.2 b.2.2,mP a.1 b.1,0]
theorem yD {w : World} {a b : Dg} : Cl Tryz.prog 24 #[.agg (fG a).toArray,.agg (fG b).toArray] w (fun u w' => u = .int .i64 (rA a b) ∧ Ext w w' ∧ w.drawn ≤ w'.drawn) := by
 have hx := Ext.refl w;have hd : w.drawn ≤ w.drawn := Nat.le_refl _;unfold rA;refine Cl.enter Tryz.func24 rfl Tryz.ntmps24 rfl rfl (.sr (Rg.wd trivial (vT (cs := fG a) rfl rfl) rfl ?_));rintro _ w1 ⟨⟨p2,rfl,hx1,hv2⟩,hd1⟩;replace hx := hx.ext hx1;replace hd := Nat.le_trans hd hd1;refine Rg.wd trivial (vT (cs := fG b) rfl rfl) rfl ?_;rintro _ w2 ⟨⟨p3,rfl,hx2,hv3⟩,hd2⟩;replace hx := hx.ext hx2;replace hv2 := hv2.ext hx2;replace hd := Nat.le_trans hd hd2;refine .a2 rfl (.done ?_);refine Wp.seq (Wp.drawM [0,1,2,3,5,6,7,8,10,11,12,13,15,16,17,18,20,21,22,23,4,9,14,19,24,25,26,27] [] mixed (by kernel_rfl) (by kernel_rfl) ?_);intro w3 hx3 _;replace hx := hx.ext hx3;replace hv2 := hv2.ext hx3;replace hv3 := hv3.ext hx3;intro hdd;replace hd := Nat.le_trans hd hdd;refine .t2 (aA Cj rfl) (.t2 (aB bA rfl (hv2.g 1 rfl)) (.t2 (aA Cj rfl) (.t2 (aB bA rfl (hv3.g 1 rfl)) (.t2 (aA Ck rfl) (.t2 (aB bA rfl (hv2.g 2 rfl)) (.t2 (aA Ck rfl) (.t2 (aB bA rfl (hv3.g 2 rfl)) (.t2 (aA Cm rfl) (.t2 (aB bA rfl (hv2.g 3 rfl)) (.t2 (aA Cm rfl) (.t2 (aB bA rfl (hv3.g 3 rfl)) (.t2 (aA Ci rfl) ?_))))))))))));refine .t2 (aB bA rfl (hv2.g 0 rfl)) (.t2 (aA Ci rfl) (.t2 (aB bA rfl (hv3.g 0 rfl)) (.t2 (aA Cn rfl) (.t2 (aB hY rfl (hv2.g 4 rfl)) (.t2 (aA Cn rfl) (.t2 (aB hY rfl (hv3.g 4 rfl)) (Rg.wdB trivial rfl (aC Tryz.call44 rfl oZ) rfl (fun _ _ h => h.2 ▸ Below.refl _ _) ?_)))))));rintro _ _ ⟨rfl,rfl⟩;refine Rg.wdB trivial rfl (aC Tryz.call44 rfl oZ) rfl (fun _ _ h => h.2 ▸ Below.refl _ _) ?_;rintro _ _ ⟨rfl,rfl⟩;refine Rg.wdB trivial rfl (aC Tryz.call44 rfl oZ) rfl (fun _ _ h => h.2 ▸ Below.refl _ _) ?_;rintro _ _ ⟨rfl,rfl⟩;refine Rg.wdB trivial rfl (aC Tryz.call44 rfl oZ) rfl (fun _ _ h => h.2 ▸ Below.refl _ _) ?_;rintro _ _ ⟨rfl,rfl⟩;refine Rg.wdB trivial rfl (aC Tryz.call45 rfl Gc) rfl (fun _ _ h => h.2 ▸ Below.refl _ _) ?_;rintro _ _ ⟨rfl,rfl⟩;refine Rg.wdB trivial rfl (qZ (H6 _ _ _ _ _) rfl) rfl (fun _ _ h => by obtain ⟨⟨_,_,h,_⟩,_⟩ := h; exact h) ?_;rintro _ w4 ⟨⟨bb,rfl,hx4,hvb⟩,hd4⟩
 replace hx := hx.ext hx4;replace hv2 := hv2.ext hx4;replace hv3 := hv3.ext hx4;replace hd := Nat.le_trans hd hd4;obtain ⟨zs,hzs⟩ : ∃ zs,[mP 0 0,mP a.2.1 b.2.1,mP a.2.2 b.2.2,mP a.1 b.1,0] = zs := ⟨_,rfl⟩;have hzl : zs.length = 5 := by rw [← hzs]; rfl
 have hsl : SlC w4 (.slice (some ⟨bb,0,none⟩) 5 5) 1 zs.length (zs.map (.int .i64)) := by rw [← hzs]; exact ⟨rfl,_,_,rfl,Nat.le_refl 5,.inr ⟨bb,0,rfl,hvb.cells⟩⟩
 rw [hzs];refine Rg.wdB trivial rfl (aC Tryz.call43 rfl (Jk hsl (by omega))) rfl (fun _ _ h => h.2 ▸ Below.refl _ _) ?_;rintro _ _ ⟨rfl,rfl⟩;refine .a2 rfl (.done (Wp.ret ?_));exact ⟨[_],⟨rfl,trivial⟩,rfl,hx,hd⟩
end Go.Proofs.YtlndmiegodcfjaaGreatDoor.Ast
