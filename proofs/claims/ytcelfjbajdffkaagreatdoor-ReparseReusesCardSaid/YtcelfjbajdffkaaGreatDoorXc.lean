/- The facts on the types of this translation that the engine wants. Printed by facts.py. -/
import Derived.Test.YtcelfjbajdffkaaGreatDoorProg
import Derived.Test.YtcelfjbajdffkaaGreatDoorXa
import Derived.Shelf.Unicode.DecodeAny
import Derived.Lib.LastIndexByte
import Derived.Lib.Bytealg
import Derived.Shelf.Strings.Fields
import Derived.Shelf.Slices.Turned
import Derived.Shelf.Small.Strs
import Derived.Shelf.Strings.Prefix
import Derived.Ground.Names2Prog
import Derived.Ground.SlgnProg
import Derived.Shelf.Strings.Builder1
set_option linter.unusedVariables false
set_option linter.unusedSimpArgs false
namespace Go.Proofs.YtcelfjbajdffkaaGreatDoor
open Go.Gx
theorem ty3 : Ty Tryz.prog 3 1 false := ⟨Tryz.sizeOf3,Tryz.isAgg3⟩
theorem ty4 : Ty Tryz.prog 4 1 false := ⟨Tryz.sizeOf4,Tryz.isAgg4⟩
theorem ty9 : Ty Tryz.prog 9 1 false := ⟨Tryz.sizeOf9,Tryz.isAgg9⟩
theorem ty23 : Ty Tryz.prog 23 1 false := ⟨Tryz.sizeOf23,Tryz.isAgg23⟩
theorem ty25 : Ty Tryz.prog 25 3 true := ⟨Tryz.sizeOf25,Tryz.isAgg25⟩
theorem ty41 : Ty Tryz.prog 41 3 true := ⟨Tryz.sizeOf41,Tryz.isAgg41⟩
theorem ty49 : Ty Tryz.prog 49 1 false := ⟨Tryz.sizeOf49,Tryz.isAgg49⟩
theorem ty55 : Ty Tryz.prog 55 2 true := ⟨Tryz.sizeOf55,Tryz.isAgg55⟩
theorem ty60 : Ty Tryz.prog 60 1 false := ⟨Tryz.sizeOf60,Tryz.isAgg60⟩
theorem ty74 : Ty Tryz.prog 74 1 false := ⟨Tryz.sizeOf74,Tryz.isAgg74⟩
theorem ty75 : Ty Tryz.prog 75 1 false := ⟨Tryz.sizeOf75,Tryz.isAgg75⟩
theorem ty83 : Ty Tryz.prog 83 1 false := ⟨Tryz.sizeOf83,Tryz.isAgg83⟩
theorem ty84 : Ty Tryz.prog 84 1 false := ⟨Tryz.sizeOf84,Tryz.isAgg84⟩
theorem ty116 : Ty Tryz.prog 116 6 true := ⟨Tryz.sizeOf116,Tryz.isAgg116⟩
theorem ty124 : Ty Tryz.prog 124 1 false := ⟨Tryz.sizeOf124,Tryz.isAgg124⟩
theorem fa25_0 : FA Tryz.prog 25 0 0 := FA.mk2 Tryz.underlying25 rfl rfl rfl ty3
theorem fa25_1 : FA Tryz.prog 25 1 1 := FA.mk2 Tryz.underlying25 rfl rfl rfl ty9
theorem fa25_2 : FA Tryz.prog 25 2 2 := FA.mk2 Tryz.underlying25 rfl rfl rfl ty23
theorem fa41_0 : FA Tryz.prog 41 0 0 := FA.mk2 Tryz.underlying41 rfl rfl rfl ty3
theorem fa41_1 : FA Tryz.prog 41 1 1 := FA.mk2 Tryz.underlying41 rfl rfl rfl ty3
theorem fa41_2 : FA Tryz.prog 41 2 2 := FA.mk2 Tryz.underlying41 rfl rfl rfl ty9
theorem fa55_0 : FA Tryz.prog 55 0 0 := FA.mk2 Tryz.underlying55 rfl rfl rfl ty3
theorem fa55_1 : FA Tryz.prog 55 1 1 := FA.mk2 Tryz.underlying55 rfl rfl rfl ty9
theorem fa62_0 : FA Tryz.prog 62 0 0 := FA.mk2 Tryz.underlying62 rfl rfl rfl ty49
theorem fa62_1 : FA Tryz.prog 62 1 1 := FA.mk2 Tryz.underlying62 rfl rfl rfl ty3
theorem fa62_2 : FA Tryz.prog 62 2 2 := FA.mk2 Tryz.underlying62 rfl rfl rfl ty23
theorem fa79_0 : FA Tryz.prog 79 0 0 := FA.mk2 Tryz.underlying79 rfl rfl rfl ty75
theorem fa79_1 : FA Tryz.prog 79 1 1 := FA.mk2 Tryz.underlying79 rfl rfl rfl ty49
theorem fa79_2 : FA Tryz.prog 79 2 2 := FA.mk2 Tryz.underlying79 rfl rfl rfl ty3
theorem fa79_3 : FA Tryz.prog 79 3 3 := FA.mk2 Tryz.underlying79 rfl rfl rfl ty3
theorem fa79_4 : FA Tryz.prog 79 4 4 := FA.mk2 Tryz.underlying79 rfl rfl rfl ty3
theorem fa79_5 : FA Tryz.prog 79 5 5 := FA.mk2 Tryz.underlying79 rfl rfl rfl ty3
theorem fa79_6 : FA Tryz.prog 79 6 6 := FA.mk2 Tryz.underlying79 rfl rfl rfl ty23
theorem fa86_0 : FA Tryz.prog 86 0 0 := FA.mk2 Tryz.underlying86 rfl rfl rfl ty83
theorem fa86_1 : FA Tryz.prog 86 1 1 := FA.mk2 Tryz.underlying86 rfl rfl rfl ty84
theorem fa116_0 : FA Tryz.prog 116 0 0 := FA.mk2 Tryz.underlying116 rfl rfl rfl ty25
theorem fa116_1 : FA Tryz.prog 116 1 3 := FA.mk2 Tryz.underlying116 rfl rfl rfl ty3
theorem fa116_2 : FA Tryz.prog 116 2 4 := FA.mk2 Tryz.underlying116 rfl rfl rfl ty3
theorem fa116_3 : FA Tryz.prog 116 3 5 := FA.mk2 Tryz.underlying116 rfl rfl rfl ty3
theorem pt83 : Tryz.prog.underlying 83 = some (.pointer (Tryz.prog.pointee 83)) := by kernel_rfl
theorem bd25  (w : World) : (Instr.build 25 [].toArray).run Tryz.prog w = .ok (.agg #[.int .i64 0,.string ⟨#[]⟩,.slice none 0 0]) w := by kernel_rfl
theorem bd25_0 (x1 : Int) (w : World) : (Instr.build 25 [(0,.int .i64 x1)].toArray).run Tryz.prog w = .ok (.agg #[.int .i64 x1,.string ⟨#[]⟩,.slice none 0 0]) w := by kernel_rfl
theorem bd25_0_1 (x1 : Int) (x2 : ByteArray) (w : World) : (Instr.build 25 [(0,.int .i64 x1),(1,.string x2)].toArray).run Tryz.prog w = .ok (.agg #[.int .i64 x1,.string x2,.slice none 0 0]) w := by kernel_rfl
theorem bd25_0_2 (x1 : Int) (x2 : Option Addr) (x3 : Nat) (x4 : Nat) (w : World) : (Instr.build 25 [(0,.int .i64 x1),(2,.slice x2 x3 x4)].toArray).run Tryz.prog w = .ok (.agg #[.int .i64 x1,.string ⟨#[]⟩,.slice x2 x3 x4]) w := by kernel_rfl
theorem bd41_0_1_2 (x1 : Int) (x2 : Int) (x3 : ByteArray) (w : World) : (Instr.build 41 [(0,.int .i64 x1),(1,.int .i64 x2),(2,.string x3)].toArray).run Tryz.prog w = .ok (.agg #[.int .i64 x1,.int .i64 x2,.string x3]) w := by kernel_rfl
theorem bd55_0 (x1 : Int) (w : World) : (Instr.build 55 [(0,.int .i64 x1)].toArray).run Tryz.prog w = .ok (.agg #[.int .i64 x1,.string ⟨#[]⟩]) w := by kernel_rfl
theorem bd55_0_1 (x1 : Int) (x2 : ByteArray) (w : World) : (Instr.build 55 [(0,.int .i64 x1),(1,.string x2)].toArray).run Tryz.prog w = .ok (.agg #[.int .i64 x1,.string x2]) w := by kernel_rfl
theorem bd62_0_1_2 (x1 : Option Addr) (x2 : Nat) (x3 : Nat) (x4 : Int) (x5 : Option Addr) (x6 : Nat) (x7 : Nat) (w : World) : (Instr.build 62 [(0,.slice x1 x2 x3),(1,.int .i64 x4),(2,.slice x5 x6 x7)].toArray).run Tryz.prog w = .ok (.agg #[.slice x1 x2 x3,.int .i64 x4,.slice x5 x6 x7]) w := by kernel_rfl
theorem bd62_0_2 (x1 : Option Addr) (x2 : Nat) (x3 : Nat) (x4 : Option Addr) (x5 : Nat) (x6 : Nat) (w : World) : (Instr.build 62 [(0,.slice x1 x2 x3),(2,.slice x4 x5 x6)].toArray).run Tryz.prog w = .ok (.agg #[.slice x1 x2 x3,.int .i64 0,.slice x4 x5 x6]) w := by kernel_rfl
theorem bd79_0_3_4 (x1 : Option Addr) (x2 : Nat) (x3 : Nat) (x4 : Int) (x5 : Int) (w : World) : (Instr.build 79 [(0,.slice x1 x2 x3),(3,.int .i64 x4),(4,.int .i64 x5)].toArray).run Tryz.prog w = .ok (.agg #[.slice x1 x2 x3,.slice none 0 0,.int .i64 0,.int .i64 x4,.int .i64 x5,.int .i64 0,.slice none 0 0]) w := by kernel_rfl
theorem bd116_0_1_2_3 (x1 : Int) (x2 : ByteArray) (x3 : Option Addr) (x4 : Nat) (x5 : Nat) (x6 : Int) (x7 : Int) (x8 : Int) (w : World) : (Instr.build 116 [(0,.agg #[.int .i64 x1,.string x2,.slice x3 x4 x5]),(1,.int .i64 x6),(2,.int .i64 x7),(3,.int .i64 x8)].toArray).run Tryz.prog w = .ok (.agg #[.int .i64 x1,.string x2,.slice x3 x4 x5,.int .i64 x6,.int .i64 x7,.int .i64 x8]) w := by kernel_rfl
theorem bs23_1 (x1 : Int) (x2 : ByteArray) (x3 : Option Addr) (x4 : Nat) (x5 : Nat) (w : World) : (Instr.buildSlice 23 1 [(0,.agg #[.int .i64 x1,.string x2,.slice x3 x4 x5])].toArray).run Tryz.prog w = .ok (.slice (some ⟨w.heap.size,0,none⟩) 1 1) (w.alloc (.cells [.int .i64 x1,.string x2,.slice x3 x4 x5].toArray 25)) := by kernel_rfl
theorem bs45_1 (x1 : Int) (x2 : Int) (x3 : ByteArray) (w : World) : (Instr.buildSlice 45 1 [(0,.agg #[.int .i64 x1,.int .i64 x2,.string x3])].toArray).run Tryz.prog w = .ok (.slice (some ⟨w.heap.size,0,none⟩) 1 1) (w.alloc (.cells [.int .i64 x1,.int .i64 x2,.string x3].toArray 41)) := by kernel_rfl
theorem bs49_0  (w : World) : (Instr.buildSlice 49 0 [].toArray).run Tryz.prog w = .ok (.slice (some ⟨w.heap.size,0,none⟩) 0 0) (w.alloc (.cells [].toArray 55)) := by kernel_rfl
theorem bs49_1 (x1 : Int) (x2 : ByteArray) (w : World) : (Instr.buildSlice 49 1 [(0,.agg #[.int .i64 x1,.string x2])].toArray).run Tryz.prog w = .ok (.slice (some ⟨w.heap.size,0,none⟩) 1 1) (w.alloc (.cells [.int .i64 x1,.string x2].toArray 55)) := by kernel_rfl
theorem bs51_1 (x1 : Int) (w : World) : (Instr.buildSlice 51 1 [(0,.int .i64 x1)].toArray).run Tryz.prog w = .ok (.slice (some ⟨w.heap.size,0,none⟩) 1 1) (w.alloc (.cells [.int .i64 x1].toArray 3)) := by kernel_rfl
theorem bs75_1 (x1 : Int) (x2 : ByteArray) (x3 : Option Addr) (x4 : Nat) (x5 : Nat) (x6 : Int) (x7 : Int) (x8 : Int) (w : World) : (Instr.buildSlice 75 1 [(0,.agg #[.int .i64 x1,.string x2,.slice x3 x4 x5,.int .i64 x6,.int .i64 x7,.int .i64 x8])].toArray).run Tryz.prog w = .ok (.slice (some ⟨w.heap.size,0,none⟩) 1 1) (w.alloc (.cells [.int .i64 x1,.string x2,.slice x3 x4 x5,.int .i64 x6,.int .i64 x7,.int .i64 x8].toArray 116)) := by kernel_rfl
theorem bs124_1 (x1 : ByteArray) (w : World) : (Instr.buildSlice 124 1 [(0,.string x1)].toArray).run Tryz.prog w = .ok (.slice (some ⟨w.heap.size,0,none⟩) 1 1) (w.alloc (.cells [.string x1].toArray 9)) := by kernel_rfl
theorem bs124_2 (x1 : ByteArray) (x2 : ByteArray) (w : World) : (Instr.buildSlice 124 2 [(0,.string x1),(1,.string x2)].toArray).run Tryz.prog w = .ok (.slice (some ⟨w.heap.size,0,none⟩) 2 2) (w.alloc (.cells [.string x1,.string x2].toArray 9)) := by kernel_rfl
theorem bs124_3 (x1 : ByteArray) (x2 : ByteArray) (x3 : ByteArray) (w : World) : (Instr.buildSlice 124 3 [(0,.string x1),(1,.string x2),(2,.string x3)].toArray).run Tryz.prog w = .ok (.slice (some ⟨w.heap.size,0,none⟩) 3 3) (w.alloc (.cells [.string x1,.string x2,.string x3].toArray 9)) := by kernel_rfl
theorem bs124_22 (x1 : ByteArray) (x2 : ByteArray) (x3 : ByteArray) (x4 : ByteArray) (x5 : ByteArray) (x6 : ByteArray) (x7 : ByteArray) (x8 : ByteArray) (x9 : ByteArray) (x10 : ByteArray) (x11 : ByteArray) (x12 : ByteArray) (x13 : ByteArray) (x14 : ByteArray) (x15 : ByteArray) (x16 : ByteArray) (x17 : ByteArray) (x18 : ByteArray) (x19 : ByteArray) (x20 : ByteArray) (x21 : ByteArray) (x22 : ByteArray) (w : World) : (Instr.buildSlice 124 22 [(0,.string x1),(1,.string x2),(2,.string x3),(3,.string x4),(4,.string x5),(5,.string x6),(6,.string x7),(7,.string x8),(8,.string x9),(9,.string x10),(10,.string x11),(11,.string x12),(12,.string x13),(13,.string x14),(14,.string x15),(15,.string x16),(16,.string x17),(17,.string x18),(18,.string x19),(19,.string x20),(20,.string x21),(21,.string x22)].toArray).run Tryz.prog w = .ok (.slice (some ⟨w.heap.size,0,none⟩) 22 22) (w.alloc (.cells [.string x1,.string x2,.string x3,.string x4,.string x5,.string x6,.string x7,.string x8,.string x9,.string x10,.string x11,.string x12,.string x13,.string x14,.string x15,.string x16,.string x17,.string x18,.string x19,.string x20,.string x21,.string x22].toArray 9)) := by kernel_rfl
theorem bs124_26 (x1 : ByteArray) (x2 : ByteArray) (x3 : ByteArray) (x4 : ByteArray) (x5 : ByteArray) (x6 : ByteArray) (x7 : ByteArray) (x8 : ByteArray) (x9 : ByteArray) (x10 : ByteArray) (x11 : ByteArray) (x12 : ByteArray) (x13 : ByteArray) (x14 : ByteArray) (x15 : ByteArray) (x16 : ByteArray) (x17 : ByteArray) (x18 : ByteArray) (x19 : ByteArray) (x20 : ByteArray) (x21 : ByteArray) (x22 : ByteArray) (x23 : ByteArray) (x24 : ByteArray) (x25 : ByteArray) (x26 : ByteArray) (w : World) : (Instr.buildSlice 124 26 [(0,.string x1),(1,.string x2),(2,.string x3),(3,.string x4),(4,.string x5),(5,.string x6),(6,.string x7),(7,.string x8),(8,.string x9),(9,.string x10),(10,.string x11),(11,.string x12),(12,.string x13),(13,.string x14),(14,.string x15),(15,.string x16),(16,.string x17),(17,.string x18),(18,.string x19),(19,.string x20),(20,.string x21),(21,.string x22),(22,.string x23),(23,.string x24),(24,.string x25),(25,.string x26)].toArray).run Tryz.prog w = .ok (.slice (some ⟨w.heap.size,0,none⟩) 26 26) (w.alloc (.cells [.string x1,.string x2,.string x3,.string x4,.string x5,.string x6,.string x7,.string x8,.string x9,.string x10,.string x11,.string x12,.string x13,.string x14,.string x15,.string x16,.string x17,.string x18,.string x19,.string x20,.string x21,.string x22,.string x23,.string x24,.string x25,.string x26].toArray 9)) := by kernel_rfl
theorem bs169_5 (x1 : Option Addr) (x2 : Nat) (x3 : Nat) (x4 : Option Addr) (x5 : Nat) (x6 : Nat) (x7 : Option Addr) (x8 : Nat) (x9 : Nat) (x10 : Option Addr) (x11 : Nat) (x12 : Nat) (x13 : Option Addr) (x14 : Nat) (x15 : Nat) (w : World) : (Instr.buildSlice 169 5 [(0,.slice x1 x2 x3),(1,.slice x4 x5 x6),(2,.slice x7 x8 x9),(3,.slice x10 x11 x12),(4,.slice x13 x14 x15)].toArray).run Tryz.prog w = .ok (.slice (some ⟨w.heap.size,0,none⟩) 5 5) (w.alloc (.cells [.slice x1 x2 x3,.slice x4 x5 x6,.slice x7 x8 x9,.slice x10 x11 x12,.slice x13 x14 x15].toArray 124)) := by kernel_rfl
theorem inf3 : ∃ i,Tryz.prog.info? 3 = some i ∧ i.zero = some (.int .i64 0) ∧ i.size = 1 ∧ i.bytes = 8 := info_parts (by kernel_rfl)
theorem inf5 : ∃ i,Tryz.prog.info? 5 = some i ∧ i.zero = some (.int .u8 0) ∧ i.size = 1 ∧ i.bytes = 1 := info_parts (by kernel_rfl)
theorem inf25 : ∃ i,Tryz.prog.info? 25 = some i ∧ i.zero = some (.agg #[.int .i64 0,.string ⟨#[]⟩,.slice none 0 0]) ∧ i.size = 3 ∧ i.bytes = 48 := info_parts (by kernel_rfl)
theorem inf55 : ∃ i,Tryz.prog.info? 55 = some i ∧ i.zero = some (.agg #[.int .i64 0,.string ⟨#[]⟩]) ∧ i.size = 2 ∧ i.bytes = 24 := info_parts (by kernel_rfl)
theorem inf86 : ∃ i,Tryz.prog.info? 86 = some i ∧ i.zero = some (.agg #[.pointer none,.slice none 0 0]) ∧ i.size = 2 ∧ i.bytes = 32 := info_parts (by kernel_rfl)
theorem inf116 : ∃ i,Tryz.prog.info? 116 = some i ∧ i.zero = some (.agg #[.int .i64 0,.string ⟨#[]⟩,.slice none 0 0,.int .i64 0,.int .i64 0,.int .i64 0]) ∧ i.size = 6 ∧ i.bytes = 72 := info_parts (by kernel_rfl)
theorem mixed : Tryz.prog.follows .mixedOrders = true := by kernel_rfl
end Go.Proofs.YtcelfjbajdffkaaGreatDoor
namespace Go.Proofs.YtcelfjbajdffkaaGreatDoor.Lexi
open Go.Lib
def bt (s : ByteArray) (i : Nat) : Int := ((s.data.toList.getD i 0).toNat : Int)
def lst (s : ByteArray) : Nat → Nat
 | 0 => 0
 | k + 1 => if bt s k = 10 then k + 1 else lst s k
theorem list_front (s : ByteArray) (k : Nat) : (s.extract 0 k).data.toList = s.data.toList.take k := by
 simp
def dec (s : ByteArray) (i : Nat) : Nat × Nat := decodeGo (s.extract i s.size)
theorem decodeN_ge1 (n b0 b1 b2 b3 : Nat) : 1 ≤ (decodeN n b0 b1 b2 b3).2 := by
 unfold decodeN
 repeat' split
 all_goals simp
theorem dec_ge (s : ByteArray) {i : Nat} (h : i < s.size) : 1 ≤ (dec s i).2 := by
 unfold dec decodeGo
 rw [if_neg (by rw [ByteArray.size_extract]; omega),decode_at]
 exact decodeN_ge1 _ _ _ _ _
def run (wd : Nat → Nat) (s : ByteArray) (c : Nat → Int → Bool) : Nat → Nat → Int → Nat × Int
 | 0,i,k => (i,k)
 | f + 1,i,k => if c i k then run wd s c f (i + (dec s i).2) (k + wd (dec s i).1) else (i,k)
theorem run_le {wd : Nat → Nat} (hw : ∀ r,wd r ≤ 2) {s : ByteArray} {c : Nat → Int → Bool} (hc : ∀ i k,c i k = true → i < s.size) : ∀ f i k,k ≤ (run wd s c f i k).2 ∧ (run wd s c f i k).2 + 2 * i ≤ k + 2 * (run wd s c f i k).1
 | 0,i,k => by simp [run]
 | f + 1,i,k => by
  unfold run
  split
  ·rename_i h
   have h1 := run_le hw hc f (i + (dec s i).2) (k + wd (dec s i).1)
   have h2 := dec_ge s (hc i k h)
   have h3 := hw (dec s i).1
   omega
  ·simp
end Go.Proofs.YtcelfjbajdffkaaGreatDoor.Lexi
namespace Go.Proofs.YtcelfjbajdffkaaGreatDoor.Lexi
def bz (s : ByteArray) (i : Nat) : Int := if i < s.size then bt s i else 10
theorem bz_in {s : ByteArray} {i : Nat} (h : i < s.size) : bz s i = bt s i := if_pos h
theorem bz_out {s : ByteArray} {i : Nat} (h : s.size ≤ i) : bz s i = 10 := if_neg (by omega)
theorem bz_lt {s : ByteArray} {i : Nat} (h : bz s i ≠ 10) : i < s.size := by
 rcases Nat.lt_or_ge i s.size with h' | h'
 ·exact h'
 ·exact absurd (bz_out h') h
def isSp (c : Int) : Bool := c == 32 || c == 9 || c == 10 || c == 13
def isLt (c : Int) : Bool := (decide (97 ≤ c) && decide (c ≤ 122)) || (decide (65 ≤ c) && decide (c ≤ 90)) || c == 95
def isDg (c : Int) : Bool := decide (48 ≤ c) && decide (c ≤ 57)
def isId (c : Int) : Bool := isLt c || isDg c
def noNl (c : Int) : Bool := c != 10
def scn (p : Int → Bool) (s : ByteArray) : Nat → Nat → Nat
 | 0,i => i
 | f + 1,i => if i < s.size then (if p (bt s i) then scn p s f (i + 1) else i) else i
def scan (p : Int → Bool) (s : ByteArray) (i : Nat) : Nat := scn p s (s.size - i) i
theorem scn_spec (p : Int → Bool) (s : ByteArray) : ∀ f i,s.size - i ≤ f → i ≤ scn p s f i ∧ (i ≤ s.size → scn p s f i ≤ s.size) ∧ (∀ k,i ≤ k → k < scn p s f i → p (bt s k) = true) ∧ (scn p s f i < s.size → p (bt s (scn p s f i)) = false)
 | 0,i,h => ⟨Nat.le_refl _,fun h => h,fun k h1 h2 => by simp only [scn] at h2; omega,fun h2 => by simp only [scn] at h2; omega⟩
 | f + 1,i,h => by
  unfold scn
  by_cases hi : i < s.size
  ·rw [if_pos hi]
   cases hp : p (bt s i) with
   | true =>
    rw [if_pos rfl]
    obtain ⟨h1,h2,h3,h4⟩ := scn_spec p s f (i + 1) (by omega)
    refine ⟨by omega,fun _ => h2 (by omega),fun k k1 k2 => ?_,h4⟩
    by_cases he : k = i
    ·subst he; exact hp
    ·exact h3 k (by omega) k2
   | false =>
    rw [if_neg (by simp)]
    exact ⟨Nat.le_refl _,fun h => h,fun k h1 h2 => by omega,fun _ => hp⟩
  ·rw [if_neg hi]
   exact ⟨Nat.le_refl _,fun h => h,fun k h1 h2 => by omega,fun h2 => absurd h2 hi⟩
theorem scan_spec (p : Int → Bool) (s : ByteArray) (i : Nat) : i ≤ scan p s i ∧ (i ≤ s.size → scan p s i ≤ s.size) ∧ (∀ k,i ≤ k → k < scan p s i → p (bt s k) = true) ∧ (scan p s i < s.size → p (bt s (scan p s i)) = false) := scn_spec p s _ i (Nat.le_refl _)
theorem scan_unique {p : Int → Bool} {s : ByteArray} {i j : Nat} (h1 : i ≤ j) (h2 : j ≤ s.size) (h3 : ∀ k,i ≤ k → k < j → p (bt s k) = true) (h4 : j < s.size → p (bt s j) = false) : scan p s i = j := by
 obtain ⟨k1,k2,k3,k4⟩ := scan_spec p s i
 have k2 := k2 (by omega)
 rcases Nat.lt_trichotomy (scan p s i) j with h | h | h
 ·have a := h3 _ k1 h
  rw [k4 (by omega)] at a
  cases a
 ·exact h
 ·have a := k3 j h1 h
  rw [h4 (by omega)] at a
  cases a
theorem scan_pos {p : Int → Bool} {s : ByteArray} {i : Nat} (h : i < s.size) (hp : p (bt s i) = true) : i < scan p s i := by
 obtain ⟨k1,k2,k3,k4⟩ := scan_spec p s i
 rcases Nat.lt_or_ge i (scan p s i) with h' | h'
 ·exact h'
 ·have : scan p s i = i := by omega
  rw [this] at k4
  rw [k4 h] at hp
  cases hp
theorem scan_local {p : Int → Bool} (h10 : p 10 = false) {s t : ByteArray} {i : Nat} (hi : i ≤ s.size) (h : ∀ k,k ≤ scan p s i → bz t k = bz s k) : scan p t i = scan p s i := by
 obtain ⟨k1,k2,k3,k4⟩ := scan_spec p s i
 have k2 := k2 hi
 have hin : ∀ k,i ≤ k → k < scan p s i → k < t.size ∧ p (bt t k) = true := fun k a1 a2 => by
  have a3 := k3 k a1 a2
  have a4 := h k (by omega)
  rw [bz_in (show k < s.size by omega)] at a4
  have a5 : bz t k ≠ 10 := fun e => by rw [a4] at e; rw [e,h10] at a3; cases a3
  have a6 := bz_lt a5
  rw [bz_in a6] at a4
  exact ⟨a6,by rw [a4]; exact a3⟩
 have hend : scan p s i < t.size → p (bt t (scan p s i)) = false := fun a => by
  have a1 := h _ (Nat.le_refl _)
  rw [bz_in a] at a1
  rw [a1]
  by_cases a2 : scan p s i < s.size
  ·rw [bz_in a2]; exact k4 a2
  ·rw [bz_out (by omega)]; exact h10
 by_cases he : i < scan p s i
 ·refine scan_unique k1 ?_ (fun k a1 a2 => (hin k a1 a2).2) hend
  have := (hin (scan p s i - 1) (by omega) (by omega)).1
  omega
 ·have e : scan p s i = i := by omega
  rw [e] at hend ⊢
  by_cases ht : i < t.size
  ·exact scan_unique (Nat.le_refl _) (by omega) (fun k a1 a2 => by omega) hend
  ·unfold scan
   rw [show t.size - i = 0 from by omega]
   rfl
def strN (s : ByteArray) : Nat → Nat → Option Nat
 | 0,_ => none
 | f + 1,i => if bz s i = 10 then none else if bz s i = 34 then some (i + 1) else if bz s i = 92 ∧ bz s (i + 1) ≠ 10 then strN s f (i + 2) else strN s f (i + 1)
theorem strN_fuel {s : ByteArray} : ∀ f g i,s.size - i < f → s.size - i < g → strN s f i = strN s g i
 | f + 1,g + 1,i,hf,hg => by
  unfold strN
  by_cases h : bz s i = 10
  ·rw [if_pos h,if_pos h]
  ·have := bz_lt h
   rw [if_neg h,if_neg h,strN_fuel f g (i + 2) (by omega) (by omega),strN_fuel f g (i + 1) (by omega) (by omega)]
def str (s : ByteArray) (i : Nat) : Option Nat := strN s (s.size + 1) i
theorem strN_some {s : ByteArray} : ∀ f i j,strN s f i = some j → i < j ∧ j ≤ s.size ∧ ∀ t g,t.size - i < g → (∀ k,k < j → bz t k = bz s k) → strN t g i = some j
 | f + 1,i,j,h => by
  unfold strN at h
  by_cases h1 : bz s i = 10
  ·rw [if_pos h1] at h; cases h
  rw [if_neg h1] at h
  have hi := bz_lt h1
  by_cases h2 : bz s i = 34
  ·rw [if_pos h2] at h
   obtain rfl := Option.some.inj h
   refine ⟨by omega,by omega,fun t g hg ht => ?_⟩
   obtain ⟨g,rfl⟩ : ∃ g',g = g' + 1 := ⟨g - 1,by omega⟩
   unfold strN
   rw [ht i (by omega),if_neg h1,if_pos h2]
  rw [if_neg h2] at h
  by_cases h3 : bz s i = 92 ∧ bz s (i + 1) ≠ 10
  ·rw [if_pos h3] at h
   obtain ⟨a1,a2,a3⟩ := strN_some f (i + 2) j h
   refine ⟨by omega,a2,fun t g hg ht => ?_⟩
   obtain ⟨g,rfl⟩ : ∃ g',g = g' + 1 := ⟨g - 1,by omega⟩
   have b1 : i < t.size := bz_lt (by rw [ht i (by omega)]; exact h1)
   unfold strN
   rw [ht i (by omega),ht (i + 1) (by omega),if_neg h1,if_neg h2,if_pos h3]
   exact a3 t g (by omega) ht
  ·rw [if_neg h3] at h
   obtain ⟨a1,a2,a3⟩ := strN_some f (i + 1) j h
   refine ⟨by omega,a2,fun t g hg ht => ?_⟩
   obtain ⟨g,rfl⟩ : ∃ g',g = g' + 1 := ⟨g - 1,by omega⟩
   have b1 : i < t.size := bz_lt (by rw [ht i (by omega)]; exact h1)
   have b2 : ¬ (bz t i = 92 ∧ bz t (i + 1) ≠ 10) := by
    rw [ht i (by omega)]
    intro hh
    by_cases hj : i + 1 < j
    ·rw [ht (i + 1) hj] at hh; exact h3 hh
    ·omega
   unfold strN
   rw [if_neg b2,ht i (by omega),if_neg h1,if_neg h2]
   exact a3 t g (by omega) ht
theorem strN_none {s t : ByteArray} {e : Nat} (he : bz s e = 10) (ht : ∀ k,k ≤ e → bz t k = bz s k) : ∀ f i g,i ≤ e → (∀ k,i ≤ k → k < e → bz s k ≠ 10) → strN s f i = none → s.size - i < f → t.size - i < g → strN t g i = none
 | f + 1,i,g + 1,hi,hn,h,hf,hg => by
  unfold strN at h ⊢
  rw [ht i hi]
  by_cases h1 : bz s i = 10
  ·rw [if_pos h1]
  have hlt : i < e := by
   rcases Nat.lt_or_ge i e with a | a
   ·exact a
   ·obtain rfl : i = e := by omega
    exact absurd he h1
  have his := bz_lt h1
  have hit : i < t.size := bz_lt (by rw [ht i hi]; exact h1)
  rw [if_neg h1] at h ⊢
  by_cases h2 : bz s i = 34
  ·rw [if_pos h2] at h; cases h
  rw [if_neg h2] at h ⊢
  rw [ht (i + 1) (by omega)]
  by_cases h3 : bz s i = 92 ∧ bz s (i + 1) ≠ 10
  ·rw [if_pos h3] at h ⊢
   have : i + 1 < e := by
    rcases Nat.lt_or_ge (i + 1) e with a | a
    ·exact a
    ·obtain rfl : i + 1 = e := by omega
     exact absurd he h3.2
   exact strN_none he ht f (i + 2) g (by omega) (fun k a b => hn k (by omega) b) h (by omega) (by omega)
  ·rw [if_neg h3] at h ⊢
   exact strN_none he ht f (i + 1) g (by omega) (fun k a b => hn k (by omega) b) h (by omega) (by omega)
def kwText : ByteArray := ⟨#[117,115,101,32,112,117,98,32,97,115,32,102,110,32,115,116,114,117,99,116,32,101,110,117,109,32,116,114,97,105,116,32,105,109,112,108,32,102,111,114,32,99,111,110,115,116,32,109,97,99,114,111,32,108,101,116,32,109,117,116,32,119,104,105,108,101,32,114,101,116,117,114,110,32,109,97,116,99,104,32,105,102,32,101,108,115,101,32,110,101,119,32,116,114,117,101,32,102,97,108,115,101,32,116,121,112,101]⟩
def twoText : ByteArray := ⟨#[58,58,32,61,62,32,45,62,32,61,61,32,38,38,32,124,124]⟩
def oneText : ByteArray := ⟨#[40,41,123,125,91,93,60,62,44,59,58,46,61,43,45,42,47,33,38,124]⟩
def kwList : List ByteArray := (Lib.fields kwText.data.toList).map fun l => ⟨l.toArray⟩
def twoList : List ByteArray := (Lib.fields twoText.data.toList).map fun l => ⟨l.toArray⟩
def isKw (x : ByteArray) : Bool := Lib.containsS kwList x
def isTwo (x : ByteArray) : Bool := Lib.containsS twoList x
def isOne (c : Int) : Bool := decide (0 ≤ Lib.indexByte oneText.data.toList c.toNat.toUInt8)
def tok (s : ByteArray) : Nat × Int :=
 if isSp (bt s 0) then (scan isSp s 0,101)
 else if bz s 0 = 47 ∧ bz s 1 = 47 then (scan noNl s 0,102)
 else if isLt (bt s 0) then (scan isId s 0,if isKw (s.extract 0 (scan isId s 0)) then 104 else 103)
 else if isDg (bt s 0) then (scan isDg s 0,105)
 else if bt s 0 = 34 then (match str s 1 with | some j => (j,106) | none => (scan noNl s 1,108))
 else if bz s 1 ≠ 10 ∧ isTwo (s.extract 0 2) then (2,107)
 else if isOne (bt s 0) then (1,107) else (1,108)
theorem ext_eq {s t : ByteArray} {n : Nat} (hs : n ≤ s.size) (ht : n ≤ t.size) (h : ∀ i, i < n → bt t i = bt s i) : t.extract 0 n = s.extract 0 n := by
  apply ByteArray.ext
  apply Array.ext'
  rw [list_front, list_front]
  apply List.ext_getElem?
  intro i
  rw [List.getElem?_take, List.getElem?_take]
  by_cases hi : i < n
  · rw [if_pos hi, if_pos hi]
    have h1 := h i hi
    have e1 : i < t.data.toList.length := by have : i < t.size := by omega
                                             simpa using this
    have e2 : i < s.data.toList.length := by have : i < s.size := by omega
                                             simpa using this
    unfold bt at h1
    rw [List.getD_eq_getElem?_getD, List.getD_eq_getElem?_getD, List.getElem?_eq_getElem e1, List.getElem?_eq_getElem e2] at h1
    rw [List.getElem?_eq_getElem e1, List.getElem?_eq_getElem e2]
    simp only [Option.getD_some] at h1
    congr 1
    apply UInt8.toNat_inj.1
    omega
  · rw [if_neg hi, if_neg hi]
theorem sp10 : isSp 10 = true := rfl
theorem scan_next {p : Int → Bool} {s : ByteArray} {i : Nat} (h : i < s.size) (hp : p (bt s i) = true) : scan p s i = scan p s (i + 1) := by
 obtain ⟨k1,k2,k3,k4⟩ := scan_spec p s (i + 1)
 exact scan_unique (by omega) (k2 (by omega)) (fun k a b => by
  by_cases he : k = i
  ·subst he; exact hp
  ·exact k3 k (by omega) b) k4
theorem tok_in {s : ByteArray} (h : 0 < s.size) : 1 ≤ (tok s).1 ∧ (tok s).1 ≤ s.size := by
 unfold tok
 have hz := fun p => (scan_spec p s 0).2.1 (Nat.zero_le _)
 split
 ·rename_i h1; exact ⟨scan_pos h h1,hz _⟩
 ·rename_i h1
  split
  ·rename_i h2
   refine ⟨scan_pos h ?_,hz _⟩
   rw [bz_in h] at h2
   rw [h2.1]; rfl
  ·split
   ·rename_i h3
    exact ⟨scan_pos h (by unfold isId; rw [h3]; rfl),hz _⟩
   ·split
    ·rename_i h4; exact ⟨scan_pos h h4,hz _⟩
    ·split
     ·cases hs : str s 1 with
      | some j =>
       obtain ⟨a1,a2,_⟩ := strN_some _ _ _ hs
       exact ⟨by simp only; omega,a2⟩
      | none =>
       have a := scan_spec noNl s 1
       exact ⟨a.1,a.2.1 h⟩
     ·split
      ·rename_i h6
       have := bz_lt h6.1
       exact ⟨by simp,by simp only; omega⟩
      ·split <;> exact ⟨by simp,h⟩
theorem tok_local {s t : ByteArray} (h : 0 < s.size) (hk : (tok s).2 ≠ 101) (ht : ∀ i,i ≤ (tok s).1 → bz t i = bz s i) : tok t = tok s := by
 have h0 := ht 0 (Nat.zero_le _)
 have hin := tok_in h
 have h1 := ht 1 hin.1
 by_cases c1 : isSp (bt s 0) = true
 ·exfalso; apply hk; unfold tok; rw [if_pos c1]
 have n10 : bz s 0 ≠ 10 := by
  rw [bz_in h]
  intro e
  rw [e] at c1
  exact c1 sp10
 have tpos : 0 < t.size := bz_lt (by rw [h0]; exact n10)
 have e0 : bt t 0 = bt s 0 := by rw [bz_in tpos,bz_in h] at h0; exact h0
 by_cases c2 : bz s 0 = 47 ∧ bz s 1 = 47
 ·have e : tok s = (scan noNl s 0,102) := by unfold tok; rw [if_neg c1,if_pos c2]
  rw [e] at ht ⊢
  unfold tok
  rw [e0,h0,h1,if_neg c1,if_pos c2,scan_local rfl (Nat.zero_le _) ht]
 by_cases c3 : isLt (bt s 0) = true
 ·have e : tok s = (scan isId s 0,if isKw (s.extract 0 (scan isId s 0)) then 104 else 103) := by unfold tok; rw [if_neg c1,if_neg c2,if_pos c3]
  rw [e] at ht ⊢
  simp only at ht
  have es := scan_local (p := isId) rfl (Nat.zero_le _) ht
  have ee : t.extract 0 (scan isId s 0) = s.extract 0 (scan isId s 0) := by
   have a1 := (scan_spec isId s 0).2.1 (Nat.zero_le _)
   have a2 := (scan_spec isId t 0).2.1 (Nat.zero_le _)
   rw [es] at a2
   refine ext_eq a1 a2 fun i hi => ?_
   have := ht i (by omega)
   rwa [bz_in (by omega),bz_in (by omega)] at this
  unfold tok
  rw [e0,h0,h1,if_neg c1,if_neg c2,if_pos c3,es,ee]
 by_cases c4 : isDg (bt s 0) = true
 ·have e : tok s = (scan isDg s 0,105) := by unfold tok; rw [if_neg c1,if_neg c2,if_neg c3,if_pos c4]
  rw [e] at ht ⊢
  unfold tok
  rw [e0,h0,h1,if_neg c1,if_neg c2,if_neg c3,if_pos c4,scan_local rfl (Nat.zero_le _) ht]
 by_cases c5 : bt s 0 = 34
 ·have e : tok s = (match str s 1 with | some j => (j,106) | none => (scan noNl s 1,108)) := by unfold tok; rw [if_neg c1,if_neg c2,if_neg c3,if_neg c4,if_pos c5]
  have e' : tok t = (match str t 1 with | some j => (j,106) | none => (scan noNl t 1,108)) := by unfold tok; rw [e0,h0,h1,if_neg c1,if_neg c2,if_neg c3,if_neg c4,if_pos c5]
  cases hs : str s 1 with
  | some j =>
   rw [hs] at e
   simp only at e
   rw [e] at ht ⊢
   obtain ⟨a1,a2,a3⟩ := strN_some _ _ _ hs
   have a4 : str t 1 = some j := a3 t _ (by omega) (fun k hk => ht k (by simp only; omega))
   rw [e',a4]
  | none =>
   rw [hs] at e
   simp only at e
   rw [e] at ht ⊢
   simp only at ht
   obtain ⟨k1,k2,k3,k4⟩ := scan_spec noNl s 1
   have hz : bz s (scan noNl s 1) = 10 := by
    by_cases hz : scan noNl s 1 < s.size
    ·rw [bz_in hz]; have := k4 hz; simpa [noNl] using this
    ·exact bz_out (by omega)
   have a4 : str t 1 = none := strN_none hz ht _ 1 _ k1 (fun k a b => by
    have := k3 k a b
    rw [bz_in (by have := k2 h; omega)]
    simpa [noNl] using this) hs (by omega) (by omega)
   rw [e',a4]
   simp only
   rw [scan_local rfl h ht]
 by_cases c6 : bz s 1 ≠ 10 ∧ isTwo (s.extract 0 2)
 ·have e : tok s = (2,107) := by unfold tok; rw [if_neg c1,if_neg c2,if_neg c3,if_neg c4,if_neg c5,if_pos c6]
  have b1 := bz_lt c6.1
  have b2 : 1 < t.size := bz_lt (by rw [h1]; exact c6.1)
  have ee : t.extract 0 2 = s.extract 0 2 := ext_eq (by omega) (by omega) fun i hi => by
   have := ht i (by rw [e]; simp only; omega)
   rwa [bz_in (by omega),bz_in (by omega)] at this
  rw [e]
  unfold tok
  rw [e0,h0,h1,ee,if_neg c1,if_neg c2,if_neg c3,if_neg c4,if_neg c5,if_pos c6]
 have c6' : ¬ (bz t 1 ≠ 10 ∧ isTwo (t.extract 0 2)) := by
  rw [h1]
  intro hh
  apply c6
  refine ⟨hh.1,?_⟩
  have b1 := bz_lt hh.1
  have b2 : 1 < t.size := bz_lt (by rw [h1]; exact hh.1)
  have ee : t.extract 0 2 = s.extract 0 2 := ext_eq (by omega) (by omega) fun i hi => by
   have : bz t i = bz s i := by
    rcases Nat.lt_or_ge i 1 with a | a
    ·rw [show i = 0 from by omega]; exact h0
    ·rw [show i = 1 from by omega]; exact h1
   rwa [bz_in (by omega),bz_in (by omega)] at this
  rw [← ee]; exact hh.2
 unfold tok
 rw [e0,h0,if_neg c1,if_neg c3,if_neg c4,if_neg c5,if_neg c6',if_neg c1,if_neg c2,if_neg c3,if_neg c4,if_neg c5,if_neg c6]
 rw [if_neg (by rw [h1]; exact c2)]
end Go.Proofs.YtcelfjbajdffkaaGreatDoor.Lexi
namespace Go.Proofs.YtcelfjbajdffkaaGreatDoor.Lexi
theorem by_list {s t : ByteArray} (h : s.data.toList = t.data.toList) : s = t := ByteArray.ext (Array.ext' h)
theorem list_cut (s : ByteArray) (a b : Nat) : (s.extract a b).data.toList = (s.data.toList.drop a).take (b - a) := by
 simp
theorem list_len (s : ByteArray) : s.data.toList.length = s.size := by simp
theorem list_app (a b : ByteArray) : (a ++ b).data.toList = a.data.toList ++ b.data.toList := by simp
theorem list_tail (s : ByteArray) (n : Nat) : (s.extract n s.size).data.toList = s.data.toList.drop n := by
 rw [list_cut,List.take_of_length_le (by rw [List.length_drop,list_len]; omega)]
theorem tail_past {a d : ByteArray} {n : Nat} : (a ++ d).extract (a.size + n) (a ++ d).size = d.extract n d.size := by
 apply by_list
 rw [list_tail,list_app,list_tail,List.drop_append,List.drop_eq_nil_of_le (by rw [list_len]; omega),list_len]
 simp
theorem cut_join {s : ByteArray} {n : Nat} (h : n ≤ s.size) : s.extract 0 n ++ s.extract n s.size = s := by
 apply by_list
 rw [list_app,list_front,list_tail,List.take_append_drop]
theorem bt_app_l {a d : ByteArray} {i : Nat} (h : i < a.size) : bt (a ++ d) i = bt a i := by
 unfold bt
 rw [list_app,List.getD_eq_getElem?_getD,List.getD_eq_getElem?_getD,List.getElem?_append_left (by rw [list_len]; exact h)]
theorem bt_tail {s : ByteArray} {n : Nat} (i : Nat) : bt (s.extract n s.size) i = bt s (n + i) := by
 unfold bt
 rw [list_tail,List.getD_eq_getElem?_getD,List.getD_eq_getElem?_getD,List.getElem?_drop]
theorem size_tail (s : ByteArray) (n : Nat) : (s.extract n s.size).size = s.size - n := by rw [ByteArray.size_extract]; omega
theorem size_zero {s : ByteArray} (h : s.size = 0) : s = ByteArray.empty := by
 apply by_list
 have : s.data.toList.length = 0 := by rw [list_len]; exact h
 rw [List.length_eq_zero_iff.1 this]; rfl
theorem full (s : ByteArray) : s.extract 0 s.size = s := by
 apply by_list
 rw [list_front,List.take_of_length_le (by rw [list_len]; omega)]
def toksN : Nat → ByteArray → List (Int × ByteArray)
 | 0,_ => []
 | f + 1,s => if s.size = 0 then [] else ((tok s).2,s.extract 0 (tok s).1) :: toksN f (s.extract (tok s).1 s.size)
def toks (s : ByteArray) : List (Int × ByteArray) := toksN s.size s
theorem toksN_fuel : ∀ f g (s : ByteArray),s.size ≤ f → s.size ≤ g → toksN f s = toksN g s
 | 0,0,_,_,_ => rfl
 | 0,g + 1,s,hf,hg => by unfold toksN; rw [if_pos (by omega)]
 | f + 1,0,s,hf,hg => by unfold toksN; rw [if_pos (by omega)]
 | f + 1,g + 1,s,hf,hg => by
  unfold toksN
  by_cases h : s.size = 0
  ·rw [if_pos h,if_pos h]
  ·have h1 := tok_in (s := s) (by omega)
   rw [if_neg h,if_neg h,toksN_fuel f g _ (by rw [size_tail]; omega) (by rw [size_tail]; omega)]
theorem toks_nil {s : ByteArray} (h : s.size = 0) : toks s = [] := by unfold toks; rw [h]; rfl
theorem toks_cons {s : ByteArray} (h : 0 < s.size) : toks s = ((tok s).2,s.extract 0 (tok s).1) :: toks (s.extract (tok s).1 s.size) := by
 have h1 := tok_in h
 unfold toks
 obtain ⟨f,hf⟩ : ∃ f,s.size = f + 1 := ⟨s.size - 1,by omega⟩
 rw [hf]
 show (if s.size = 0 then [] else _) = _
 rw [if_neg (by omega),← hf,toksN_fuel f (s.extract (tok s).1 s.size).size _ (by rw [size_tail]; omega) (Nat.le_refl _)]
def catT : List (Int × ByteArray) → ByteArray
 | [] => ByteArray.empty
 | t :: l => t.2 ++ catT l
theorem induct_size {P : ByteArray → Prop} (h : ∀ s,(∀ t,t.size < s.size → P t) → P s) (s : ByteArray) : P s := by
 have : ∀ n (s : ByteArray),s.size < n → P s := by
  intro n
  induction n with
  | zero => intro s hs; omega
  | succ n ih => intro s hs; exact h s fun t ht => ih t (by omega)
 exact this _ s (Nat.lt_succ_self _)
theorem cat_toks : ∀ s,catT (toks s) = s := induct_size fun s ih => by
 by_cases h : s.size = 0
 ·rw [toks_nil h,size_zero h]; rfl
 ·have h1 := tok_in (s := s) (by omega)
  rw [toks_cons (by omega),catT,ih _ (by rw [size_tail]; omega),cut_join h1.2]
theorem toks_full : ∀ s,∀ t ∈ toks s,0 < t.2.size := induct_size fun s ih t ht => by
 by_cases h : s.size = 0
 ·rw [toks_nil h] at ht; cases ht
 ·have h1 := tok_in (s := s) (by omega)
  rw [toks_cons (by omega)] at ht
  rcases List.mem_cons.1 ht with rfl | ht
  ·simp only [ByteArray.size_extract]; omega
  ·exact ih _ (by rw [size_tail]; omega) t ht
theorem toks_drop : ∀ (k : Nat) (s : ByteArray),toks (catT ((toks s).drop k)) = (toks s).drop k
 | 0,s => by rw [List.drop_zero,cat_toks]
 | k + 1,s => by
  by_cases h : s.size = 0
  ·rw [toks_nil h,List.drop_nil]; rfl
  ·rw [toks_cons (s := s) (by omega),List.drop_succ_cons]
   exact toks_drop k _
theorem toks_length (s : ByteArray) : (toks s).length ≤ s.size := by
 revert s
 refine induct_size fun s ih => ?_
 by_cases h : s.size = 0
 ·rw [toks_nil h]; exact Nat.zero_le _
 ·have h1 := tok_in (s := s) (by omega)
  rw [toks_cons (by omega),List.length_cons]
  have := ih (s.extract (tok s).1 s.size) (by rw [size_tail]; omega)
  rw [size_tail] at this
  omega
theorem tok_sp {s : ByteArray} (h : isSp (bt s 0) = true) : tok s = (scan isSp s 0,101) := by unfold tok; rw [if_pos h]
theorem tok_ns {s : ByteArray} (h : ¬ isSp (bt s 0) = true) : (tok s).2 ≠ 101 := by
 unfold tok
 rw [if_neg h]
 split
 ·simp
 ·split
  ·split <;> simp
  ·split
   ·simp
   ·split
    ·split <;> simp
    ·split
     ·simp
     ·split <;> simp
def nl : ByteArray := ⟨#[10]⟩
end Go.Proofs.YtcelfjbajdffkaaGreatDoor.Lexi
namespace Go.Proofs
open Go.Shelf
def Tryz.lays137_ren : Go.Shelf.Ren := ⟨fun | 137 => 98 | 217 => 122 | 266 => 149 | n => n,fun | 9 => 9 | 5 => 5 | 3 => 3 | n => n,fun | n => n⟩
theorem Tryz.lays137 : Go.Proofs.Lays.n137 Tryz.prog Tryz.lays137_ren := {
 mixed := by kernel_rfl
 f137 := Tryz.func98.trans (congrArg some (by kernel_rfl))
 f217 := Tryz.func122.trans (congrArg some (by kernel_rfl))
 f266 := Tryz.func149.trans (congrArg some (by kernel_rfl))
 t3 := Tryz.underlying3
 a3 := Tryz.isAgg3
 z3 := Tryz.sizeOf3
 v3 := Tryz.zeroValue3
 t5 := Tryz.underlying5
 a5 := Tryz.isAgg5
 z5 := Tryz.sizeOf5
 v5 := Tryz.zeroValue5
 t9 := Tryz.underlying9
 a9 := Tryz.isAgg9
 z9 := Tryz.sizeOf9
 v9 := Tryz.zeroValue9 }
open Go.RowKit in
theorem Tryz.strings_IndexByte (s : ByteArray) (c : Int) (w : World) :
  Calls Tryz.prog 98 #[.string s,.int .u8 c] w fun e w' => e = .returned (.int .i64 (Lib.indexByte s.data.toList c.toNat.toUInt8)) ∧ w' = w := Any.strings_IndexByte Tryz.lays137 s c w
def Tryz.lays99_ren : Go.Shelf.Ren := ⟨fun | 99 => 89 | 206 => 120 | n => n,fun | 9 => 9 | 4 => 4 | 3 => 3 | n => n,fun | n => n⟩
theorem Tryz.lays99 : Go.Proofs.Lays.n99 Tryz.prog Tryz.lays99_ren := {
 mixed := by kernel_rfl
 f99 := Tryz.func89.trans (congrArg some (by kernel_rfl))
 f206 := Tryz.func120.trans (congrArg some (by kernel_rfl))
 t3 := Tryz.underlying3
 a3 := Tryz.isAgg3
 z3 := Tryz.sizeOf3
 v3 := Tryz.zeroValue3
 t4 := Tryz.underlying4
 a4 := Tryz.isAgg4
 z4 := Tryz.sizeOf4
 v4 := Tryz.zeroValue4
 t9 := Tryz.underlying9
 a9 := Tryz.isAgg9
 z9 := Tryz.sizeOf9
 v9 := Tryz.zeroValue9 }
open Go.RowKit Go.Lib in
theorem Tryz.strings_HasPrefix (s p : ByteArray) (w : World) :
  Calls Tryz.prog 89 #[.string s,.string p] w fun e w' => e = .returned (.bool (Lib.hasPrefix s.data.toList p.data.toList)) ∧ w' = w := Any.strings_HasPrefix Tryz.lays99 s p w
def Tryz.lays157_ren : Go.Shelf.Ren := ⟨fun | 157 => 100 | 229 => 123 | 199 => 124 | 261 => 150 | 311 => 166 | 312 => 167 | n => n,fun | 9 => 9 | 31 => 124 | 3 => 3 | 5 => 5 | 4 => 4 | 119 => 141 | 0 => 0 | 40 => 143 | 152 => 149 | 21 => 21 | 154 => 151 | 51 => 152 | 141 => 154 | 196 => 161 | 193 => 158 | 198 => 164 | 49 => 162 | 194 => 159 | 201 => 167 | 226 => 170 | 46 => 147 | 227 => 171 | n => n,fun | 0 => 0 | 6 => 1 | n => n⟩
theorem Tryz.lays157 : Go.Proofs.Lays.n157 Tryz.prog Tryz.lays157_ren := {
 mixed := by kernel_rfl
 f157 := Tryz.func100.trans (congrArg some (by kernel_rfl))
 f199 := Tryz.func124.trans (congrArg some (by kernel_rfl))
 f229 := Tryz.func123.trans (congrArg some (by kernel_rfl))
 f261 := Tryz.func150.trans (congrArg some (by kernel_rfl))
 f311 := Tryz.func166.trans (congrArg some (by kernel_rfl))
 f312 := Tryz.func167.trans (congrArg some (by kernel_rfl))
 t0 := Tryz.underlying0
 a0 := Tryz.isAgg0
 z0 := Tryz.sizeOf0
 v0 := Tryz.zeroValue0
 t3 := Tryz.underlying3
 a3 := Tryz.isAgg3
 z3 := Tryz.sizeOf3
 v3 := Tryz.zeroValue3
 t4 := Tryz.underlying4
 a4 := Tryz.isAgg4
 z4 := Tryz.sizeOf4
 v4 := Tryz.zeroValue4
 t5 := Tryz.underlying5
 a5 := Tryz.isAgg5
 z5 := Tryz.sizeOf5
 v5 := Tryz.zeroValue5
 t9 := Tryz.underlying9
 a9 := Tryz.isAgg9
 z9 := Tryz.sizeOf9
 v9 := Tryz.zeroValue9
 t21 := Tryz.underlying21
 a21 := Tryz.isAgg21
 z21 := Tryz.sizeOf21
 v21 := Tryz.zeroValue21
 t31 := Tryz.underlying124
 a31 := Tryz.isAgg124
 z31 := Tryz.sizeOf124
 v31 := Tryz.zeroValue124
 t40 := Tryz.underlying143
 a40 := Tryz.isAgg143
 z40 := Tryz.sizeOf143
 v40 := Tryz.zeroValue143
 t46 := Tryz.underlying147
 a46 := Tryz.isAgg147
 z46 := Tryz.sizeOf147
 v46 := Tryz.zeroValue147
 t49 := Tryz.underlying162
 a49 := Tryz.isAgg162
 z49 := Tryz.sizeOf162
 v49 := Tryz.zeroValue162
 t51 := Tryz.underlying152
 a51 := Tryz.isAgg152
 z51 := Tryz.sizeOf152
 v51 := Tryz.zeroValue152
 t119 := Tryz.underlying141
 a119 := Tryz.isAgg141
 z119 := Tryz.sizeOf141
 t141 := Tryz.underlying154
 a141 := Tryz.isAgg154
 z141 := Tryz.sizeOf154
 v141 := Tryz.zeroValue154
 t152 := Tryz.underlying149
 a152 := Tryz.isAgg149
 z152 := Tryz.sizeOf149
 v152 := Tryz.zeroValue149
 t154 := Tryz.underlying151
 a154 := Tryz.isAgg151
 z154 := Tryz.sizeOf151
 v154 := Tryz.zeroValue151
 t193 := Tryz.underlying158
 a193 := Tryz.isAgg158
 z193 := Tryz.sizeOf158
 v193 := Tryz.zeroValue158
 t194 := Tryz.underlying159
 a194 := Tryz.isAgg159
 z194 := Tryz.sizeOf159
 v194 := Tryz.zeroValue159
 t196 := Tryz.underlying161
 a196 := Tryz.isAgg161
 z196 := Tryz.sizeOf161
 v196 := Tryz.zeroValue161
 t198 := Tryz.underlying164
 a198 := Tryz.isAgg164
 z198 := Tryz.sizeOf164
 v198 := Tryz.zeroValue164
 t201 := Tryz.underlying167
 a201 := Tryz.isAgg167
 z201 := Tryz.sizeOf167
 v201 := Tryz.zeroValue167
 t226 := Tryz.underlying170
 a226 := Tryz.isAgg170
 z226 := Tryz.sizeOf170
 v226 := Tryz.zeroValue170
 t227 := Tryz.underlying171
 a227 := Tryz.isAgg171
 z227 := Tryz.sizeOf171
 v227 := Tryz.zeroValue171
 g0 := by kernel_rfl
 g6 := by kernel_rfl }
open Go.RowKit Go.Lib in
theorem Tryz.strings_Fields (s : ByteArray) (w : World) (hs : s.size < 4294967281) (hascii : ∀ (j : Nat) b,s.data.toList[j]? = some b → b.toNat < 128) (htab : Lib.TabIs Tryz.prog w "strings.asciiSpace" .u8 Lib.asciiSpaceTab) :
  Calls Tryz.prog 100 #[.string s] w fun e w' =>
   e = .returned (.slice (some ⟨w.heap.size,0,none⟩) (Lib.fields s.data.toList).length (Lib.fields s.data.toList).length) ∧ w' = w.alloc (.cells ((Lib.fields s.data.toList).map fun l => Value.string ⟨l.toArray⟩).toArray 9) := Any.strings_Fields Tryz.lays157 (by kernel_rfl) (by kernel_rfl) s w hs hascii htab
def Tryz.lays110_ren : Go.Shelf.Ren := ⟨fun | 110 => 94 | 109 => 99 | n => n,fun | 31 => 124 | 9 => 9 | 4 => 4 | 3 => 3 | 0 => 0 | n => n,fun | n => n⟩
theorem Tryz.lays110 : Go.Proofs.Lays.n110 Tryz.prog Tryz.lays110_ren := {
 mixed := by kernel_rfl
 f109 := Tryz.func99.trans (congrArg some (by kernel_rfl))
 f110 := Tryz.func94.trans (congrArg some (by kernel_rfl))
 t0 := Tryz.underlying0
 a0 := Tryz.isAgg0
 z0 := Tryz.sizeOf0
 v0 := Tryz.zeroValue0
 t3 := Tryz.underlying3
 a3 := Tryz.isAgg3
 z3 := Tryz.sizeOf3
 v3 := Tryz.zeroValue3
 t4 := Tryz.underlying4
 a4 := Tryz.isAgg4
 z4 := Tryz.sizeOf4
 v4 := Tryz.zeroValue4
 t9 := Tryz.underlying9
 a9 := Tryz.isAgg9
 z9 := Tryz.sizeOf9
 v9 := Tryz.zeroValue9
 t31 := Tryz.underlying124
 a31 := Tryz.isAgg124
 z31 := Tryz.sizeOf124
 v31 := Tryz.zeroValue124 }
open Go.Lib in
theorem Tryz.slices_Contains_string (b off n c : Nat) (zs : List ByteArray) (x : ByteArray) (w : World) (hz : n ≤ zs.length) (hbig : n ≤ 9223372036854775807) (hc : ∀ j,j < zs.length → w.cell? ⟨b,off + j,none⟩ = some (.string (zs.getD j ByteArray.empty))) :
  Calls Tryz.prog 94 #[.slice (some ⟨b,off,none⟩) n c,.string x] w fun e w' => e = .returned (.bool (Lib.containsS (zs.take n) x)) ∧ w' = w := Any.slices_Contains_string Tryz.lays110 b off n c zs x w hz hbig hc
end Go.Proofs
namespace Go.Proofs
open Go.Shelf
def Tryz.lays169_ren : Go.Shelf.Ren := ⟨fun | 169 => 45 | n => n,fun | 70 => 83 | 9 => 9 | 0 => 0 | 72 => 86 | 37 => 84 | 127 => 126 | 3 => 3 | 5 => 5 | n => n,fun | n => n⟩
theorem Tryz.lays169 : Go.Proofs.Lays.n169 Tryz.prog Tryz.lays169_ren := {
 mixed := by kernel_rfl
 f169 := Tryz.func45.trans (congrArg some (by kernel_rfl))
 t0 := Tryz.underlying0
 a0 := Tryz.isAgg0
 z0 := Tryz.sizeOf0
 v0 := Tryz.zeroValue0
 t3 := Tryz.underlying3
 a3 := Tryz.isAgg3
 z3 := Tryz.sizeOf3
 v3 := Tryz.zeroValue3
 t9 := Tryz.underlying9
 a9 := Tryz.isAgg9
 z9 := Tryz.sizeOf9
 v9 := Tryz.zeroValue9
 t37 := Tryz.underlying84
 a37 := Tryz.isAgg84
 z37 := Tryz.sizeOf84
 v37 := Tryz.zeroValue84
 t70 := Tryz.underlying83
 a70 := Tryz.isAgg83
 z70 := Tryz.sizeOf83
 v70 := Tryz.zeroValue83
 t72 := Tryz.underlying86
 a72 := Tryz.isAgg86
 z72 := Tryz.sizeOf86
 v72 := Tryz.zeroValue86
 t127 := Tryz.underlying126
 a127 := Tryz.isAgg126
 z127 := Tryz.sizeOf126
 v127 := Tryz.zeroValue126 }
theorem Tryz.Builder_Extra_169 : Builder.Extra Tryz.prog Tryz.lays169_ren := {
 sizeBuilder := by kernel_rfl
 liesBuilder := by kernel_rfl
 t5 := Tryz.underlying5
 a5 := Tryz.isAgg5
 z5 := Tryz.sizeOf5
 v5 := Tryz.zeroValue5
 infoByte := by kernel_rfl
 cellsByte := by kernel_rfl
 sizeByte := by kernel_rfl
 neB5 := by decide }
open Go.RowKit in
theorem Tryz.Builder_String_any (B b : Nat) (l : List UInt8) (w : World) (h : Lib.IsBuilder 86 5 B b (Lib.byteCells l) w) (hBw : B ≤ w.heap.size) :
  Calls Tryz.prog 45 #[.pointer (some ⟨b,0,none⟩)] w fun e w' => e = .returned (.string ⟨l.toArray⟩) ∧ Below B w w' := Any.Builder_String_any Tryz.lays169 Tryz.Builder_Extra_169 B b l w h hBw
end Go.Proofs
namespace Go.Proofs
open Go.Shelf
theorem Tryz.lays109 : Go.Proofs.Lays.n109 Tryz.prog Tryz.lays110_ren := {
 mixed := by kernel_rfl
 f109 := Tryz.func99.trans (congrArg some (by kernel_rfl))
 t0 := Tryz.underlying0
 a0 := Tryz.isAgg0
 z0 := Tryz.sizeOf0
 v0 := Tryz.zeroValue0
 t3 := Tryz.underlying3
 a3 := Tryz.isAgg3
 z3 := Tryz.sizeOf3
 v3 := Tryz.zeroValue3
 t4 := Tryz.underlying4
 a4 := Tryz.isAgg4
 z4 := Tryz.sizeOf4
 v4 := Tryz.zeroValue4
 t9 := Tryz.underlying9
 a9 := Tryz.isAgg9
 z9 := Tryz.sizeOf9
 v9 := Tryz.zeroValue9
 t31 := Tryz.underlying124
 a31 := Tryz.isAgg124
 z31 := Tryz.sizeOf124
 v31 := Tryz.zeroValue124 }
open Go.RowKit Go.Lib in
theorem Tryz.slices_Index_string (b off n c : Nat) (zs : List ByteArray) (x : ByteArray) (w : World) (hz : n ≤ zs.length) (hbig : n ≤ 9223372036854775807) (hc : ∀ j,j < zs.length → w.cell? ⟨b,off + j,none⟩ = some (.string (zs.getD j ByteArray.empty))) :
  Calls Tryz.prog 99 #[.slice (some ⟨b,off,none⟩) n c,.string x] w fun e w' => e = .returned (.int .i64 (Lib.idxOfS (zs.take n) x)) ∧ w' = w := Any.slices_Index_string Tryz.lays109 b off n c zs x w hz hbig hc
end Go.Proofs
