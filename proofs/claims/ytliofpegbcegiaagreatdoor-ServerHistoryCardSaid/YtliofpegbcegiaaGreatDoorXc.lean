/- The facts on the types of this translation that the engine wants. Printed by facts.py. -/
import Derived.Test.YtliofpegbcegiaaGreatDoorProg
import Derived.Test.YtliofpegbcegiaaGreatDoorXa
import Derived.Shelf.Unicode.DecodeAny
import Derived.Lib.LastIndexByte
import Derived.Lib.Bytealg
import Derived.Shelf.Strings.Fields
import Derived.Shelf.Slices.Turned
import Derived.Shelf.Small.Strs
import Derived.Shelf.Strings.Prefix
import Derived.Ground.Names2Prog
import Derived.Ground.SlgnProg
set_option linter.unusedVariables false
set_option linter.unusedSimpArgs false
namespace Go.Proofs.YtliofpegbcegiaaGreatDoor
open Go.Gx
theorem ty1 : Ty Tryz.prog 1 1 false := ⟨Tryz.sizeOf1,Tryz.isAgg1⟩
theorem ty2 : Ty Tryz.prog 2 1 false := ⟨Tryz.sizeOf2,Tryz.isAgg2⟩
theorem ty3 : Ty Tryz.prog 3 1 false := ⟨Tryz.sizeOf3,Tryz.isAgg3⟩
theorem ty9 : Ty Tryz.prog 9 1 false := ⟨Tryz.sizeOf9,Tryz.isAgg9⟩
theorem ty23 : Ty Tryz.prog 23 1 false := ⟨Tryz.sizeOf23,Tryz.isAgg23⟩
theorem ty25 : Ty Tryz.prog 25 1 false := ⟨Tryz.sizeOf25,Tryz.isAgg25⟩
theorem ty27 : Ty Tryz.prog 27 5 true := ⟨Tryz.sizeOf27,Tryz.isAgg27⟩
theorem ty29 : Ty Tryz.prog 29 11 true := ⟨Tryz.sizeOf29,Tryz.isAgg29⟩
theorem ty33 : Ty Tryz.prog 33 1 false := ⟨Tryz.sizeOf33,Tryz.isAgg33⟩
theorem ty35 : Ty Tryz.prog 35 1 false := ⟨Tryz.sizeOf35,Tryz.isAgg35⟩
theorem ty38 : Ty Tryz.prog 38 1 false := ⟨Tryz.sizeOf38,Tryz.isAgg38⟩
theorem ty40 : Ty Tryz.prog 40 1 false := ⟨Tryz.sizeOf40,Tryz.isAgg40⟩
theorem ty41 : Ty Tryz.prog 41 1 false := ⟨Tryz.sizeOf41,Tryz.isAgg41⟩
theorem ty43 : Ty Tryz.prog 43 6 true := ⟨Tryz.sizeOf43,Tryz.isAgg43⟩
theorem ty49 : Ty Tryz.prog 49 1 false := ⟨Tryz.sizeOf49,Tryz.isAgg49⟩
theorem ty52 : Ty Tryz.prog 52 2 true := ⟨Tryz.sizeOf52,Tryz.isAgg52⟩
theorem ty60 : Ty Tryz.prog 60 1 false := ⟨Tryz.sizeOf60,Tryz.isAgg60⟩
theorem ty63 : Ty Tryz.prog 63 3 true := ⟨Tryz.sizeOf63,Tryz.isAgg63⟩
theorem ty66 : Ty Tryz.prog 66 2 true := ⟨Tryz.sizeOf66,Tryz.isAgg66⟩
theorem ty68 : Ty Tryz.prog 68 1 false := ⟨Tryz.sizeOf68,Tryz.isAgg68⟩
theorem ty82 : Ty Tryz.prog 82 1 false := ⟨Tryz.sizeOf82,Tryz.isAgg82⟩
theorem ty84 : Ty Tryz.prog 84 1 false := ⟨Tryz.sizeOf84,Tryz.isAgg84⟩
theorem ty85 : Ty Tryz.prog 85 1 false := ⟨Tryz.sizeOf85,Tryz.isAgg85⟩
theorem ty106 : Ty Tryz.prog 106 1 false := ⟨Tryz.sizeOf106,Tryz.isAgg106⟩
theorem ty109 : Ty Tryz.prog 109 1 false := ⟨Tryz.sizeOf109,Tryz.isAgg109⟩
theorem ty110 : Ty Tryz.prog 110 3 true := ⟨Tryz.sizeOf110,Tryz.isAgg110⟩
theorem ty118 : Ty Tryz.prog 118 1 false := ⟨Tryz.sizeOf118,Tryz.isAgg118⟩
theorem ty119 : Ty Tryz.prog 119 1 false := ⟨Tryz.sizeOf119,Tryz.isAgg119⟩
theorem ty123 : Ty Tryz.prog 123 3 true := ⟨Tryz.sizeOf123,Tryz.isAgg123⟩
theorem ty137 : Ty Tryz.prog 137 1 false := ⟨Tryz.sizeOf137,Tryz.isAgg137⟩
theorem ty151 : Ty Tryz.prog 151 1 true := ⟨Tryz.sizeOf151,Tryz.isAgg151⟩
theorem ty166 : Ty Tryz.prog 166 4 true := ⟨Tryz.sizeOf166,Tryz.isAgg166⟩
theorem fa27_0 : FA Tryz.prog 27 0 0 := FA.mk2 Tryz.underlying27 rfl rfl rfl ty3
theorem fa27_1 : FA Tryz.prog 27 1 1 := FA.mk2 Tryz.underlying27 rfl rfl rfl ty3
theorem fa27_2 : FA Tryz.prog 27 2 2 := FA.mk2 Tryz.underlying27 rfl rfl rfl ty3
theorem fa27_3 : FA Tryz.prog 27 3 3 := FA.mk2 Tryz.underlying27 rfl rfl rfl ty3
theorem fa27_4 : FA Tryz.prog 27 4 4 := FA.mk2 Tryz.underlying27 rfl rfl rfl ty9
theorem fa29_0 : FA Tryz.prog 29 0 0 := FA.mk2 Tryz.underlying29 rfl rfl rfl ty3
theorem fa29_1 : FA Tryz.prog 29 1 1 := FA.mk2 Tryz.underlying29 rfl rfl rfl ty3
theorem fa29_2 : FA Tryz.prog 29 2 2 := FA.mk2 Tryz.underlying29 rfl rfl rfl ty3
theorem fa29_3 : FA Tryz.prog 29 3 3 := FA.mk2 Tryz.underlying29 rfl rfl rfl ty9
theorem fa29_4 : FA Tryz.prog 29 4 4 := FA.mk2 Tryz.underlying29 rfl rfl rfl ty9
theorem fa29_5 : FA Tryz.prog 29 5 5 := FA.mk2 Tryz.underlying29 rfl rfl rfl ty25
theorem fa29_6 : FA Tryz.prog 29 6 6 := FA.mk2 Tryz.underlying29 rfl rfl rfl ty27
theorem fa43_0 : FA Tryz.prog 43 0 0 := FA.mk2 Tryz.underlying43 rfl rfl rfl ty3
theorem fa43_1 : FA Tryz.prog 43 1 1 := FA.mk2 Tryz.underlying43 rfl rfl rfl ty3
theorem fa43_2 : FA Tryz.prog 43 2 2 := FA.mk2 Tryz.underlying43 rfl rfl rfl ty40
theorem fa43_3 : FA Tryz.prog 43 3 3 := FA.mk2 Tryz.underlying43 rfl rfl rfl ty3
theorem fa43_4 : FA Tryz.prog 43 4 4 := FA.mk2 Tryz.underlying43 rfl rfl rfl ty41
theorem fa43_5 : FA Tryz.prog 43 5 5 := FA.mk2 Tryz.underlying43 rfl rfl rfl ty9
theorem fa52_0 : FA Tryz.prog 52 0 0 := FA.mk2 Tryz.underlying52 rfl rfl rfl ty9
theorem fa52_1 : FA Tryz.prog 52 1 1 := FA.mk2 Tryz.underlying52 rfl rfl rfl ty9
theorem fa63_0 : FA Tryz.prog 63 0 0 := FA.mk2 Tryz.underlying63 rfl rfl rfl ty3
theorem fa63_1 : FA Tryz.prog 63 1 1 := FA.mk2 Tryz.underlying63 rfl rfl rfl ty3
theorem fa63_2 : FA Tryz.prog 63 2 2 := FA.mk2 Tryz.underlying63 rfl rfl rfl ty3
theorem fa66_0 : FA Tryz.prog 66 0 0 := FA.mk2 Tryz.underlying66 rfl rfl rfl ty41
theorem fa66_1 : FA Tryz.prog 66 1 1 := FA.mk2 Tryz.underlying66 rfl rfl rfl ty9
theorem fa70_0 : FA Tryz.prog 70 0 0 := FA.mk2 Tryz.underlying70 rfl rfl rfl ty49
theorem fa70_1 : FA Tryz.prog 70 1 1 := FA.mk2 Tryz.underlying70 rfl rfl rfl ty41
theorem fa70_2 : FA Tryz.prog 70 2 2 := FA.mk2 Tryz.underlying70 rfl rfl rfl ty38
theorem fa70_3 : FA Tryz.prog 70 3 3 := FA.mk2 Tryz.underlying70 rfl rfl rfl ty3
theorem fa70_4 : FA Tryz.prog 70 4 4 := FA.mk2 Tryz.underlying70 rfl rfl rfl ty60
theorem fa87_0 : FA Tryz.prog 87 0 0 := FA.mk2 Tryz.underlying87 rfl rfl rfl ty68
theorem fa87_1 : FA Tryz.prog 87 1 1 := FA.mk2 Tryz.underlying87 rfl rfl rfl ty82
theorem fa87_2 : FA Tryz.prog 87 2 2 := FA.mk2 Tryz.underlying87 rfl rfl rfl ty84
theorem fa87_3 : FA Tryz.prog 87 3 3 := FA.mk2 Tryz.underlying87 rfl rfl rfl ty85
theorem fa87_4 : FA Tryz.prog 87 4 4 := FA.mk2 Tryz.underlying87 rfl rfl rfl ty23
theorem fa87_5 : FA Tryz.prog 87 5 5 := FA.mk2 Tryz.underlying87 rfl rfl rfl ty3
theorem fa87_6 : FA Tryz.prog 87 6 6 := FA.mk2 Tryz.underlying87 rfl rfl rfl ty3
theorem fa112_0 : FA Tryz.prog 112 0 0 := FA.mk2 Tryz.underlying112 rfl rfl rfl ty3
theorem fa112_1 : FA Tryz.prog 112 1 1 := FA.mk2 Tryz.underlying112 rfl rfl rfl ty110
theorem fa112_2 : FA Tryz.prog 112 2 4 := FA.mk2 Tryz.underlying112 rfl rfl rfl ty109
theorem fa121_0 : FA Tryz.prog 121 0 0 := FA.mk2 Tryz.underlying121 rfl rfl rfl ty118
theorem fa121_1 : FA Tryz.prog 121 1 1 := FA.mk2 Tryz.underlying121 rfl rfl rfl ty119
theorem fa123_0 : FA Tryz.prog 123 0 0 := FA.mk2 Tryz.underlying123 rfl rfl rfl ty3
theorem fa123_1 : FA Tryz.prog 123 1 1 := FA.mk2 Tryz.underlying123 rfl rfl rfl ty3
theorem fa123_2 : FA Tryz.prog 123 2 2 := FA.mk2 Tryz.underlying123 rfl rfl rfl ty9
theorem fa139_0 : FA Tryz.prog 139 0 0 := FA.mk2 Tryz.underlying139 rfl rfl rfl ty66
theorem fa139_1 : FA Tryz.prog 139 1 2 := FA.mk2 Tryz.underlying139 rfl rfl rfl ty3
theorem fa139_2 : FA Tryz.prog 139 2 3 := FA.mk2 Tryz.underlying139 rfl rfl rfl ty3
theorem fa139_3 : FA Tryz.prog 139 3 4 := FA.mk2 Tryz.underlying139 rfl rfl rfl ty3
theorem fa139_4 : FA Tryz.prog 139 4 5 := FA.mk2 Tryz.underlying139 rfl rfl rfl ty106
theorem fa139_5 : FA Tryz.prog 139 5 6 := FA.mk2 Tryz.underlying139 rfl rfl rfl ty3
theorem fa151_0 : FA Tryz.prog 151 0 0 := FA.mk2 Tryz.underlying151 rfl rfl rfl ty40
theorem fa166_0 : FA Tryz.prog 166 0 0 := FA.mk2 Tryz.underlying166 rfl rfl rfl ty66
theorem fa166_1 : FA Tryz.prog 166 1 2 := FA.mk2 Tryz.underlying166 rfl rfl rfl ty3
theorem fa166_2 : FA Tryz.prog 166 2 3 := FA.mk2 Tryz.underlying166 rfl rfl rfl ty3
theorem pt60 : Tryz.prog.underlying 60 = some (.pointer (Tryz.prog.pointee 60)) := by kernel_rfl
theorem pt118 : Tryz.prog.underlying 118 = some (.pointer (Tryz.prog.pointee 118)) := by kernel_rfl
theorem pt137 : Tryz.prog.underlying 137 = some (.pointer (Tryz.prog.pointee 137)) := by kernel_rfl
theorem bd27_1_2_4 (x1 : Int) (x2 : Int) (x3 : ByteArray) (w : World) : (Instr.build 27 [(1,.int .i64 x1),(2,.int .i64 x2),(4,.string x3)].toArray).run Tryz.prog w = .ok (.agg #[.int .i64 0,.int .i64 x1,.int .i64 x2,.int .i64 0,.string x3]) w := by kernel_rfl
theorem bd27_2_3 (x1 : Int) (x2 : Int) (w : World) : (Instr.build 27 [(2,.int .i64 x1),(3,.int .i64 x2)].toArray).run Tryz.prog w = .ok (.agg #[.int .i64 0,.int .i64 0,.int .i64 x1,.int .i64 x2,.string ⟨#[]⟩]) w := by kernel_rfl
theorem bd29_0_1 (x1 : Int) (x2 : Int) (w : World) : (Instr.build 29 [(0,.int .i64 x1),(1,.int .i64 x2)].toArray).run Tryz.prog w = .ok (.agg #[.int .i64 x1,.int .i64 x2,.int .i64 0,.string ⟨#[]⟩,.string ⟨#[]⟩,.slice none 0 0,.int .i64 0,.int .i64 0,.int .i64 0,.int .i64 0,.string ⟨#[]⟩]) w := by kernel_rfl
theorem bd29_0_3_4 (x1 : Int) (x2 : ByteArray) (x3 : ByteArray) (w : World) : (Instr.build 29 [(0,.int .i64 x1),(3,.string x2),(4,.string x3)].toArray).run Tryz.prog w = .ok (.agg #[.int .i64 x1,.int .i64 0,.int .i64 0,.string x2,.string x3,.slice none 0 0,.int .i64 0,.int .i64 0,.int .i64 0,.int .i64 0,.string ⟨#[]⟩]) w := by kernel_rfl
theorem bd29_0_6 (x1 : Int) (x2 : Int) (x3 : Int) (x4 : Int) (x5 : Int) (x6 : ByteArray) (w : World) : (Instr.build 29 [(0,.int .i64 x1),(6,.agg #[.int .i64 x2,.int .i64 x3,.int .i64 x4,.int .i64 x5,.string x6])].toArray).run Tryz.prog w = .ok (.agg #[.int .i64 x1,.int .i64 0,.int .i64 0,.string ⟨#[]⟩,.string ⟨#[]⟩,.slice none 0 0,.int .i64 x2,.int .i64 x3,.int .i64 x4,.int .i64 x5,.string x6]) w := by kernel_rfl
theorem bd43  (w : World) : (Instr.build 43 [].toArray).run Tryz.prog w = .ok (.agg #[.int .i64 0,.int .i64 0,.int .i64 0,.int .i64 0,.slice none 0 0,.string ⟨#[]⟩]) w := by kernel_rfl
theorem bd43_0_1_2_3 (x1 : Int) (x2 : Int) (x3 : Int) (x4 : Int) (w : World) : (Instr.build 43 [(0,.int .i64 x1),(1,.int .i64 x2),(2,.int .i64 x3),(3,.int .i64 x4)].toArray).run Tryz.prog w = .ok (.agg #[.int .i64 x1,.int .i64 x2,.int .i64 x3,.int .i64 x4,.slice none 0 0,.string ⟨#[]⟩]) w := by kernel_rfl
theorem bd43_0_1_3 (x1 : Int) (x2 : Int) (x3 : Int) (w : World) : (Instr.build 43 [(0,.int .i64 x1),(1,.int .i64 x2),(3,.int .i64 x3)].toArray).run Tryz.prog w = .ok (.agg #[.int .i64 x1,.int .i64 x2,.int .i64 0,.int .i64 x3,.slice none 0 0,.string ⟨#[]⟩]) w := by kernel_rfl
theorem bd43_1_3_4 (x1 : Int) (x2 : Int) (x3 : Option Addr) (x4 : Nat) (x5 : Nat) (w : World) : (Instr.build 43 [(1,.int .i64 x1),(3,.int .i64 x2),(4,.slice x3 x4 x5)].toArray).run Tryz.prog w = .ok (.agg #[.int .i64 0,.int .i64 x1,.int .i64 0,.int .i64 x2,.slice x3 x4 x5,.string ⟨#[]⟩]) w := by kernel_rfl
theorem bd43_2 (x1 : Int) (w : World) : (Instr.build 43 [(2,.int .i64 x1)].toArray).run Tryz.prog w = .ok (.agg #[.int .i64 0,.int .i64 0,.int .i64 x1,.int .i64 0,.slice none 0 0,.string ⟨#[]⟩]) w := by kernel_rfl
theorem bd43_4_5 (x1 : Option Addr) (x2 : Nat) (x3 : Nat) (x4 : ByteArray) (w : World) : (Instr.build 43 [(4,.slice x1 x2 x3),(5,.string x4)].toArray).run Tryz.prog w = .ok (.agg #[.int .i64 0,.int .i64 0,.int .i64 0,.int .i64 0,.slice x1 x2 x3,.string x4]) w := by kernel_rfl
theorem bd43_5 (x1 : ByteArray) (w : World) : (Instr.build 43 [(5,.string x1)].toArray).run Tryz.prog w = .ok (.agg #[.int .i64 0,.int .i64 0,.int .i64 0,.int .i64 0,.slice none 0 0,.string x1]) w := by kernel_rfl
theorem bd52_0_1 (x1 : ByteArray) (x2 : ByteArray) (w : World) : (Instr.build 52 [(0,.string x1),(1,.string x2)].toArray).run Tryz.prog w = .ok (.agg #[.string x1,.string x2]) w := by kernel_rfl
theorem bd63_0_1_2 (x1 : Int) (x2 : Int) (x3 : Int) (w : World) : (Instr.build 63 [(0,.int .i64 x1),(1,.int .i64 x2),(2,.int .i64 x3)].toArray).run Tryz.prog w = .ok (.agg #[.int .i64 x1,.int .i64 x2,.int .i64 x3]) w := by kernel_rfl
theorem bd63_1 (x1 : Int) (w : World) : (Instr.build 63 [(1,.int .i64 x1)].toArray).run Tryz.prog w = .ok (.agg #[.int .i64 0,.int .i64 x1,.int .i64 0]) w := by kernel_rfl
theorem bd63_1_2 (x1 : Int) (x2 : Int) (w : World) : (Instr.build 63 [(1,.int .i64 x1),(2,.int .i64 x2)].toArray).run Tryz.prog w = .ok (.agg #[.int .i64 0,.int .i64 x1,.int .i64 x2]) w := by kernel_rfl
theorem bd66  (w : World) : (Instr.build 66 [].toArray).run Tryz.prog w = .ok (.agg #[.slice none 0 0,.string ⟨#[]⟩]) w := by kernel_rfl
theorem bd66_0 (x1 : Option Addr) (x2 : Nat) (x3 : Nat) (w : World) : (Instr.build 66 [(0,.slice x1 x2 x3)].toArray).run Tryz.prog w = .ok (.agg #[.slice x1 x2 x3,.string ⟨#[]⟩]) w := by kernel_rfl
theorem bd66_0_1 (x1 : Option Addr) (x2 : Nat) (x3 : Nat) (x4 : ByteArray) (w : World) : (Instr.build 66 [(0,.slice x1 x2 x3),(1,.string x4)].toArray).run Tryz.prog w = .ok (.agg #[.slice x1 x2 x3,.string x4]) w := by kernel_rfl
theorem bd66_1 (x1 : ByteArray) (w : World) : (Instr.build 66 [(1,.string x1)].toArray).run Tryz.prog w = .ok (.agg #[.slice none 0 0,.string x1]) w := by kernel_rfl
theorem bd70_4 (x1 : Option Addr) (w : World) : (Instr.build 70 [(4,.pointer x1)].toArray).run Tryz.prog w = .ok (.agg #[.slice none 0 0,.slice none 0 0,.slice none 0 0,.int .i64 0,.pointer x1]) w := by kernel_rfl
theorem bd139_1_2_3 (x1 : Int) (x2 : Int) (x3 : Int) (w : World) : (Instr.build 139 [(1,.int .i64 x1),(2,.int .i64 x2),(3,.int .i64 x3)].toArray).run Tryz.prog w = .ok (.agg #[.slice none 0 0,.string ⟨#[]⟩,.int .i64 x1,.int .i64 x2,.int .i64 x3,.slice none 0 0,.int .i64 0]) w := by kernel_rfl
theorem bd151_0 (x1 : Int) (w : World) : (Instr.build 151 [(0,.int .i64 x1)].toArray).run Tryz.prog w = .ok (.agg #[.int .i64 x1]) w := by kernel_rfl
theorem bd166_0_1_2 (x1 : Option Addr) (x2 : Nat) (x3 : Nat) (x4 : ByteArray) (x5 : Int) (x6 : Int) (w : World) : (Instr.build 166 [(0,.agg #[.slice x1 x2 x3,.string x4]),(1,.int .i64 x5),(2,.int .i64 x6)].toArray).run Tryz.prog w = .ok (.agg #[.slice x1 x2 x3,.string x4,.int .i64 x5,.int .i64 x6]) w := by kernel_rfl
theorem bs22_1 (x1 : Int) (x2 : Int) (x3 : Int) (x4 : ByteArray) (x5 : ByteArray) (x6 : Option Addr) (x7 : Nat) (x8 : Nat) (x9 : Int) (x10 : Int) (x11 : Int) (x12 : Int) (x13 : ByteArray) (w : World) : (Instr.buildSlice 22 1 [(0,.agg #[.int .i64 x1,.int .i64 x2,.int .i64 x3,.string x4,.string x5,.slice x6 x7 x8,.int .i64 x9,.int .i64 x10,.int .i64 x11,.int .i64 x12,.string x13])].toArray).run Tryz.prog w = .ok (.slice (some ⟨w.heap.size,0,none⟩) 1 1) (w.alloc (.cells [.int .i64 x1,.int .i64 x2,.int .i64 x3,.string x4,.string x5,.slice x6 x7 x8,.int .i64 x9,.int .i64 x10,.int .i64 x11,.int .i64 x12,.string x13].toArray 29)) := by kernel_rfl
theorem bs22_2 (x1 : Int) (x2 : Int) (x3 : Int) (x4 : ByteArray) (x5 : ByteArray) (x6 : Option Addr) (x7 : Nat) (x8 : Nat) (x9 : Int) (x10 : Int) (x11 : Int) (x12 : Int) (x13 : ByteArray) (x14 : Int) (x15 : Int) (x16 : Int) (x17 : ByteArray) (x18 : ByteArray) (x19 : Option Addr) (x20 : Nat) (x21 : Nat) (x22 : Int) (x23 : Int) (x24 : Int) (x25 : Int) (x26 : ByteArray) (w : World) : (Instr.buildSlice 22 2 [(0,.agg #[.int .i64 x1,.int .i64 x2,.int .i64 x3,.string x4,.string x5,.slice x6 x7 x8,.int .i64 x9,.int .i64 x10,.int .i64 x11,.int .i64 x12,.string x13]),(1,.agg #[.int .i64 x14,.int .i64 x15,.int .i64 x16,.string x17,.string x18,.slice x19 x20 x21,.int .i64 x22,.int .i64 x23,.int .i64 x24,.int .i64 x25,.string x26])].toArray).run Tryz.prog w = .ok (.slice (some ⟨w.heap.size,0,none⟩) 2 2) (w.alloc (.cells [.int .i64 x1,.int .i64 x2,.int .i64 x3,.string x4,.string x5,.slice x6 x7 x8,.int .i64 x9,.int .i64 x10,.int .i64 x11,.int .i64 x12,.string x13,.int .i64 x14,.int .i64 x15,.int .i64 x16,.string x17,.string x18,.slice x19 x20 x21,.int .i64 x22,.int .i64 x23,.int .i64 x24,.int .i64 x25,.string x26].toArray 29)) := by kernel_rfl
theorem bs22_3 (x1 : Int) (x2 : Int) (x3 : Int) (x4 : ByteArray) (x5 : ByteArray) (x6 : Option Addr) (x7 : Nat) (x8 : Nat) (x9 : Int) (x10 : Int) (x11 : Int) (x12 : Int) (x13 : ByteArray) (x14 : Int) (x15 : Int) (x16 : Int) (x17 : ByteArray) (x18 : ByteArray) (x19 : Option Addr) (x20 : Nat) (x21 : Nat) (x22 : Int) (x23 : Int) (x24 : Int) (x25 : Int) (x26 : ByteArray) (x27 : Int) (x28 : Int) (x29 : Int) (x30 : ByteArray) (x31 : ByteArray) (x32 : Option Addr) (x33 : Nat) (x34 : Nat) (x35 : Int) (x36 : Int) (x37 : Int) (x38 : Int) (x39 : ByteArray) (w : World) : (Instr.buildSlice 22 3 [(0,.agg #[.int .i64 x1,.int .i64 x2,.int .i64 x3,.string x4,.string x5,.slice x6 x7 x8,.int .i64 x9,.int .i64 x10,.int .i64 x11,.int .i64 x12,.string x13]),(1,.agg #[.int .i64 x14,.int .i64 x15,.int .i64 x16,.string x17,.string x18,.slice x19 x20 x21,.int .i64 x22,.int .i64 x23,.int .i64 x24,.int .i64 x25,.string x26]),(2,.agg #[.int .i64 x27,.int .i64 x28,.int .i64 x29,.string x30,.string x31,.slice x32 x33 x34,.int .i64 x35,.int .i64 x36,.int .i64 x37,.int .i64 x38,.string x39])].toArray).run Tryz.prog w = .ok (.slice (some ⟨w.heap.size,0,none⟩) 3 3) (w.alloc (.cells [.int .i64 x1,.int .i64 x2,.int .i64 x3,.string x4,.string x5,.slice x6 x7 x8,.int .i64 x9,.int .i64 x10,.int .i64 x11,.int .i64 x12,.string x13,.int .i64 x14,.int .i64 x15,.int .i64 x16,.string x17,.string x18,.slice x19 x20 x21,.int .i64 x22,.int .i64 x23,.int .i64 x24,.int .i64 x25,.string x26,.int .i64 x27,.int .i64 x28,.int .i64 x29,.string x30,.string x31,.slice x32 x33 x34,.int .i64 x35,.int .i64 x36,.int .i64 x37,.int .i64 x38,.string x39].toArray 29)) := by kernel_rfl
theorem bs31_1 (x1 : Int) (x2 : Int) (x3 : Int) (x4 : Int) (x5 : Option Addr) (x6 : Nat) (x7 : Nat) (x8 : ByteArray) (w : World) : (Instr.buildSlice 31 1 [(0,.agg #[.int .i64 x1,.int .i64 x2,.int .i64 x3,.int .i64 x4,.slice x5 x6 x7,.string x8])].toArray).run Tryz.prog w = .ok (.slice (some ⟨w.heap.size,0,none⟩) 1 1) (w.alloc (.cells [.int .i64 x1,.int .i64 x2,.int .i64 x3,.int .i64 x4,.slice x5 x6 x7,.string x8].toArray 43)) := by kernel_rfl
theorem bs38_0  (w : World) : (Instr.buildSlice 38 0 [].toArray).run Tryz.prog w = .ok (.slice (some ⟨w.heap.size,0,none⟩) 0 0) (w.alloc (.cells [].toArray 27)) := by kernel_rfl
theorem bs38_1 (x1 : Int) (x2 : Int) (x3 : Int) (x4 : Int) (x5 : ByteArray) (w : World) : (Instr.buildSlice 38 1 [(0,.agg #[.int .i64 x1,.int .i64 x2,.int .i64 x3,.int .i64 x4,.string x5])].toArray).run Tryz.prog w = .ok (.slice (some ⟨w.heap.size,0,none⟩) 1 1) (w.alloc (.cells [.int .i64 x1,.int .i64 x2,.int .i64 x3,.int .i64 x4,.string x5].toArray 27)) := by kernel_rfl
theorem bs41_0  (w : World) : (Instr.buildSlice 41 0 [].toArray).run Tryz.prog w = .ok (.slice (some ⟨w.heap.size,0,none⟩) 0 0) (w.alloc (.cells [].toArray 3)) := by kernel_rfl
theorem bs41_1 (x1 : Int) (w : World) : (Instr.buildSlice 41 1 [(0,.int .i64 x1)].toArray).run Tryz.prog w = .ok (.slice (some ⟨w.heap.size,0,none⟩) 1 1) (w.alloc (.cells [.int .i64 x1].toArray 3)) := by kernel_rfl
theorem bs41_2 (x1 : Int) (x2 : Int) (w : World) : (Instr.buildSlice 41 2 [(0,.int .i64 x1),(1,.int .i64 x2)].toArray).run Tryz.prog w = .ok (.slice (some ⟨w.heap.size,0,none⟩) 2 2) (w.alloc (.cells [.int .i64 x1,.int .i64 x2].toArray 3)) := by kernel_rfl
theorem bs49_0  (w : World) : (Instr.buildSlice 49 0 [].toArray).run Tryz.prog w = .ok (.slice (some ⟨w.heap.size,0,none⟩) 0 0) (w.alloc (.cells [].toArray 52)) := by kernel_rfl
theorem bs49_1 (x1 : ByteArray) (x2 : ByteArray) (w : World) : (Instr.buildSlice 49 1 [(0,.agg #[.string x1,.string x2])].toArray).run Tryz.prog w = .ok (.slice (some ⟨w.heap.size,0,none⟩) 1 1) (w.alloc (.cells [.string x1,.string x2].toArray 52)) := by kernel_rfl
theorem bs106_1 (x1 : Int) (x2 : Int) (x3 : Int) (w : World) : (Instr.buildSlice 106 1 [(0,.agg #[.int .i64 x1,.int .i64 x2,.int .i64 x3])].toArray).run Tryz.prog w = .ok (.slice (some ⟨w.heap.size,0,none⟩) 1 1) (w.alloc (.cells [.int .i64 x1,.int .i64 x2,.int .i64 x3].toArray 63)) := by kernel_rfl
theorem inf3 : ∃ i,Tryz.prog.info? 3 = some i ∧ i.zero = some (.int .i64 0) ∧ i.size = 1 ∧ i.bytes = 8 := info_parts (by kernel_rfl)
theorem inf5 : ∃ i,Tryz.prog.info? 5 = some i ∧ i.zero = some (.int .u8 0) ∧ i.size = 1 ∧ i.bytes = 1 := info_parts (by kernel_rfl)
theorem inf27 : ∃ i,Tryz.prog.info? 27 = some i ∧ i.zero = some (.agg #[.int .i64 0,.int .i64 0,.int .i64 0,.int .i64 0,.string ⟨#[]⟩]) ∧ i.size = 5 ∧ i.bytes = 48 := info_parts (by kernel_rfl)
theorem inf29 : ∃ i,Tryz.prog.info? 29 = some i ∧ i.zero = some (.agg #[.int .i64 0,.int .i64 0,.int .i64 0,.string ⟨#[]⟩,.string ⟨#[]⟩,.slice none 0 0,.int .i64 0,.int .i64 0,.int .i64 0,.int .i64 0,.string ⟨#[]⟩]) ∧ i.size = 11 ∧ i.bytes = 128 := info_parts (by kernel_rfl)
theorem inf43 : ∃ i,Tryz.prog.info? 43 = some i ∧ i.zero = some (.agg #[.int .i64 0,.int .i64 0,.int .i64 0,.int .i64 0,.slice none 0 0,.string ⟨#[]⟩]) ∧ i.size = 6 ∧ i.bytes = 72 := info_parts (by kernel_rfl)
theorem inf52 : ∃ i,Tryz.prog.info? 52 = some i ∧ i.zero = some (.agg #[.string ⟨#[]⟩,.string ⟨#[]⟩]) ∧ i.size = 2 ∧ i.bytes = 32 := info_parts (by kernel_rfl)
theorem inf63 : ∃ i,Tryz.prog.info? 63 = some i ∧ i.zero = some (.agg #[.int .i64 0,.int .i64 0,.int .i64 0]) ∧ i.size = 3 ∧ i.bytes = 24 := info_parts (by kernel_rfl)
theorem inf121 : ∃ i,Tryz.prog.info? 121 = some i ∧ i.zero = some (.agg #[.pointer none,.slice none 0 0]) ∧ i.size = 2 ∧ i.bytes = 32 := info_parts (by kernel_rfl)
theorem mixed : Tryz.prog.follows .mixedOrders = true := by kernel_rfl
end Go.Proofs.YtliofpegbcegiaaGreatDoor
namespace Go.Proofs.YtliofpegbcegiaaGreatDoor.Lexi
open Go.Lib
def bt (s : ByteArray) (i : Nat) : Int := ((s.data.toList.getD i 0).toNat : Int)
theorem list_front (s : ByteArray) (k : Nat) : (s.extract 0 k).data.toList = s.data.toList.take k := by
 simp
def dec (s : ByteArray) (i : Nat) : Nat × Nat := decodeGo (s.extract i s.size)
def run (wd : Nat → Nat) (s : ByteArray) (c : Nat → Int → Bool) : Nat → Nat → Int → Nat × Int
 | 0,i,k => (i,k)
 | f + 1,i,k => if c i k then run wd s c f (i + (dec s i).2) (k + wd (dec s i).1) else (i,k)
def runs (wd : Nat → Nat) (s : ByteArray) (c : Nat → Int → Bool) (i : Nat) (k : Int) : Nat × Int := run wd s c (s.size - i) i k
end Go.Proofs.YtliofpegbcegiaaGreatDoor.Lexi
namespace Go.Proofs.YtliofpegbcegiaaGreatDoor.Lexi
def bz (s : ByteArray) (i : Nat) : Int := if i < s.size then bt s i else 10
theorem bz_in {s : ByteArray} {i : Nat} (h : i < s.size) : bz s i = bt s i := if_pos h
theorem bz_out {s : ByteArray} {i : Nat} (h : s.size ≤ i) : bz s i = 10 := if_neg (by omega)
theorem bz_lt {s : ByteArray} {i : Nat} (h : bz s i ≠ 10) : i < s.size := by
 rcases Nat.lt_or_ge i s.size with h' | h'
 ·exact h'
 ·exact absurd (bz_out h') h
def isSp (c : Int) : Bool := c == 32 || c == 9 || c == 10 || c == 13
def isLt (c : Int) : Bool := (decide (97 ≤ c) && decide (c ≤ 122)) || (decide (65 ≤ c) && decide (c ≤ 90)) || c == 95
def isDg (c : Int) : Bool := decide (48 ≤ c) && decide (c ≤ 57)
def isId (c : Int) : Bool := isLt c || isDg c
def noNl (c : Int) : Bool := c != 10
def scn (p : Int → Bool) (s : ByteArray) : Nat → Nat → Nat
 | 0,i => i
 | f + 1,i => if i < s.size then (if p (bt s i) then scn p s f (i + 1) else i) else i
def scan (p : Int → Bool) (s : ByteArray) (i : Nat) : Nat := scn p s (s.size - i) i
theorem scn_spec (p : Int → Bool) (s : ByteArray) : ∀ f i,s.size - i ≤ f → i ≤ scn p s f i ∧ (i ≤ s.size → scn p s f i ≤ s.size) ∧ (∀ k,i ≤ k → k < scn p s f i → p (bt s k) = true) ∧ (scn p s f i < s.size → p (bt s (scn p s f i)) = false)
 | 0,i,h => ⟨Nat.le_refl _,fun h => h,fun k h1 h2 => by simp only [scn] at h2; omega,fun h2 => by simp only [scn] at h2; omega⟩
 | f + 1,i,h => by
  unfold scn
  by_cases hi : i < s.size
  ·rw [if_pos hi]
   cases hp : p (bt s i) with
   | true =>
    rw [if_pos rfl]
    obtain ⟨h1,h2,h3,h4⟩ := scn_spec p s f (i + 1) (by omega)
    refine ⟨by omega,fun _ => h2 (by omega),fun k k1 k2 => ?_,h4⟩
    by_cases he : k = i
    ·subst he; exact hp
    ·exact h3 k (by omega) k2
   | false =>
    rw [if_neg (by simp)]
    exact ⟨Nat.le_refl _,fun h => h,fun k h1 h2 => by omega,fun _ => hp⟩
  ·rw [if_neg hi]
   exact ⟨Nat.le_refl _,fun h => h,fun k h1 h2 => by omega,fun h2 => absurd h2 hi⟩
theorem scan_spec (p : Int → Bool) (s : ByteArray) (i : Nat) : i ≤ scan p s i ∧ (i ≤ s.size → scan p s i ≤ s.size) ∧ (∀ k,i ≤ k → k < scan p s i → p (bt s k) = true) ∧ (scan p s i < s.size → p (bt s (scan p s i)) = false) := scn_spec p s _ i (Nat.le_refl _)
theorem scan_unique {p : Int → Bool} {s : ByteArray} {i j : Nat} (h1 : i ≤ j) (h2 : j ≤ s.size) (h3 : ∀ k,i ≤ k → k < j → p (bt s k) = true) (h4 : j < s.size → p (bt s j) = false) : scan p s i = j := by
 obtain ⟨k1,k2,k3,k4⟩ := scan_spec p s i
 have k2 := k2 (by omega)
 rcases Nat.lt_trichotomy (scan p s i) j with h | h | h
 ·have a := h3 _ k1 h
  rw [k4 (by omega)] at a
  cases a
 ·exact h
 ·have a := k3 j h1 h
  rw [h4 (by omega)] at a
  cases a
def strN (s : ByteArray) : Nat → Nat → Option Nat
 | 0,_ => none
 | f + 1,i => if bz s i = 10 then none else if bz s i = 34 then some (i + 1) else if bz s i = 92 ∧ bz s (i + 1) ≠ 10 then strN s f (i + 2) else strN s f (i + 1)
theorem strN_fuel {s : ByteArray} : ∀ f g i,s.size - i < f → s.size - i < g → strN s f i = strN s g i
 | f + 1,g + 1,i,hf,hg => by
  unfold strN
  by_cases h : bz s i = 10
  ·rw [if_pos h,if_pos h]
  ·have := bz_lt h
   rw [if_neg h,if_neg h,strN_fuel f g (i + 2) (by omega) (by omega),strN_fuel f g (i + 1) (by omega) (by omega)]
def str (s : ByteArray) (i : Nat) : Option Nat := strN s (s.size + 1) i
def kwText : ByteArray := ⟨#[117,115,101,32,112,117,98,32,97,115,32,102,110,32,115,116,114,117,99,116,32,101,110,117,109,32,116,114,97,105,116,32,105,109,112,108,32,102,111,114,32,99,111,110,115,116,32,109,97,99,114,111,32,108,101,116,32,109,117,116,32,119,104,105,108,101,32,114,101,116,117,114,110,32,109,97,116,99,104,32,105,102,32,101,108,115,101,32,110,101,119,32,116,114,117,101,32,102,97,108,115,101,32,116,121,112,101]⟩
def twoText : ByteArray := ⟨#[58,58,32,61,62,32,45,62,32,61,61,32,38,38,32,124,124]⟩
def oneText : ByteArray := ⟨#[40,41,123,125,91,93,60,62,44,59,58,46,61,43,45,42,47,33,38,124]⟩
def kwList : List ByteArray := (Lib.fields kwText.data.toList).map fun l => ⟨l.toArray⟩
def twoList : List ByteArray := (Lib.fields twoText.data.toList).map fun l => ⟨l.toArray⟩
def isKw (x : ByteArray) : Bool := Lib.containsS kwList x
def isTwo (x : ByteArray) : Bool := Lib.containsS twoList x
def isOne (c : Int) : Bool := decide (0 ≤ Lib.indexByte oneText.data.toList c.toNat.toUInt8)
def tok (s : ByteArray) : Nat × Int :=
 if isSp (bt s 0) then (scan isSp s 0,101)
 else if bz s 0 = 47 ∧ bz s 1 = 47 then (scan noNl s 0,102)
 else if isLt (bt s 0) then (scan isId s 0,if isKw (s.extract 0 (scan isId s 0)) then 104 else 103)
 else if isDg (bt s 0) then (scan isDg s 0,105)
 else if bt s 0 = 34 then (match str s 1 with | some j => (j,106) | none => (scan noNl s 1,108))
 else if bz s 1 ≠ 10 ∧ isTwo (s.extract 0 2) then (2,107)
 else if isOne (bt s 0) then (1,107) else (1,108)
theorem scan_next {p : Int → Bool} {s : ByteArray} {i : Nat} (h : i < s.size) (hp : p (bt s i) = true) : scan p s i = scan p s (i + 1) := by
 obtain ⟨k1,k2,k3,k4⟩ := scan_spec p s (i + 1)
 exact scan_unique (by omega) (k2 (by omega)) (fun k a b => by
  by_cases he : k = i
  ·subst he; exact hp
  ·exact k3 k (by omega) b) k4
end Go.Proofs.YtliofpegbcegiaaGreatDoor.Lexi
namespace Go.Proofs.YtliofpegbcegiaaGreatDoor.Lexi
theorem list_cut (s : ByteArray) (a b : Nat) : (s.extract a b).data.toList = (s.data.toList.drop a).take (b - a) := by
 simp
theorem list_len (s : ByteArray) : s.data.toList.length = s.size := by simp
end Go.Proofs.YtliofpegbcegiaaGreatDoor.Lexi
namespace Go.Proofs
open Go.Shelf
def Tryz.lays106_ren : Go.Shelf.Ren := ⟨fun | 106 => 47 | 213 => 63 | 265 => 84 | n => n,fun | 9 => 9 | 3 => 3 | n => n,fun | n => n⟩
theorem Tryz.lays106 : Go.Proofs.Lays.n106 Tryz.prog Tryz.lays106_ren := {
 mixed := by kernel_rfl
 f106 := Tryz.func47.trans (congrArg some (by kernel_rfl))
 f213 := Tryz.func63.trans (congrArg some (by kernel_rfl))
 f265 := Tryz.func84.trans (congrArg some (by kernel_rfl))
 t3 := Tryz.underlying3
 a3 := Tryz.isAgg3
 z3 := Tryz.sizeOf3
 v3 := Tryz.zeroValue3
 t9 := Tryz.underlying9
 a9 := Tryz.isAgg9
 z9 := Tryz.sizeOf9
 v9 := Tryz.zeroValue9 }
open Go.RowKit in
theorem Tryz.strings_Compare (a b : ByteArray) (w : World) :
  Calls Tryz.prog 47 #[.string a,.string b] w fun e w' => e = .returned (.int .i64 (Lib.compareBytes a.data.toList b.data.toList)) ∧ w' = w := Any.strings_Compare Tryz.lays106 a b w
def Tryz.lays137_ren : Go.Shelf.Ren := ⟨fun | 137 => 118 | 217 => 140 | 266 => 151 | n => n,fun | 9 => 9 | 5 => 5 | 3 => 3 | n => n,fun | n => n⟩
theorem Tryz.lays137 : Go.Proofs.Lays.n137 Tryz.prog Tryz.lays137_ren := {
 mixed := by kernel_rfl
 f137 := Tryz.func118.trans (congrArg some (by kernel_rfl))
 f217 := Tryz.func140.trans (congrArg some (by kernel_rfl))
 f266 := Tryz.func151.trans (congrArg some (by kernel_rfl))
 t3 := Tryz.underlying3
 a3 := Tryz.isAgg3
 z3 := Tryz.sizeOf3
 v3 := Tryz.zeroValue3
 t5 := Tryz.underlying5
 a5 := Tryz.isAgg5
 z5 := Tryz.sizeOf5
 v5 := Tryz.zeroValue5
 t9 := Tryz.underlying9
 a9 := Tryz.isAgg9
 z9 := Tryz.sizeOf9
 v9 := Tryz.zeroValue9 }
open Go.RowKit in
theorem Tryz.strings_IndexByte (s : ByteArray) (c : Int) (w : World) :
  Calls Tryz.prog 118 #[.string s,.int .u8 c] w fun e w' => e = .returned (.int .i64 (Lib.indexByte s.data.toList c.toNat.toUInt8)) ∧ w' = w := Any.strings_IndexByte Tryz.lays137 s c w
def Tryz.lays99_ren : Go.Shelf.Ren := ⟨fun | 99 => 109 | 206 => 136 | n => n,fun | 9 => 9 | 4 => 4 | 3 => 3 | n => n,fun | n => n⟩
theorem Tryz.lays99 : Go.Proofs.Lays.n99 Tryz.prog Tryz.lays99_ren := {
 mixed := by kernel_rfl
 f99 := Tryz.func109.trans (congrArg some (by kernel_rfl))
 f206 := Tryz.func136.trans (congrArg some (by kernel_rfl))
 t3 := Tryz.underlying3
 a3 := Tryz.isAgg3
 z3 := Tryz.sizeOf3
 v3 := Tryz.zeroValue3
 t4 := Tryz.underlying4
 a4 := Tryz.isAgg4
 z4 := Tryz.sizeOf4
 v4 := Tryz.zeroValue4
 t9 := Tryz.underlying9
 a9 := Tryz.isAgg9
 z9 := Tryz.sizeOf9
 v9 := Tryz.zeroValue9 }
open Go.RowKit Go.Lib in
theorem Tryz.strings_HasPrefix (s p : ByteArray) (w : World) :
  Calls Tryz.prog 109 #[.string s,.string p] w fun e w' => e = .returned (.bool (Lib.hasPrefix s.data.toList p.data.toList)) ∧ w' = w := Any.strings_HasPrefix Tryz.lays99 s p w
def Tryz.lays157_ren : Go.Shelf.Ren := ⟨fun | 157 => 138 | 229 => 149 | 199 => 150 | 261 => 153 | 311 => 154 | 312 => 155 | n => n,fun | 9 => 9 | 31 => 175 | 3 => 3 | 5 => 5 | 4 => 4 | 119 => 204 | 0 => 0 | 40 => 206 | 152 => 209 | 21 => 21 | 154 => 211 | 51 => 191 | 141 => 213 | 196 => 217 | 193 => 214 | 198 => 220 | 49 => 218 | 194 => 215 | 201 => 223 | 226 => 225 | 46 => 114 | 227 => 226 | n => n,fun | 0 => 1 | 6 => 2 | n => n⟩
theorem Tryz.lays157 : Go.Proofs.Lays.n157 Tryz.prog Tryz.lays157_ren := {
 mixed := by kernel_rfl
 f157 := Tryz.func138.trans (congrArg some (by kernel_rfl))
 f199 := Tryz.func150.trans (congrArg some (by kernel_rfl))
 f229 := Tryz.func149.trans (congrArg some (by kernel_rfl))
 f261 := Tryz.func153.trans (congrArg some (by kernel_rfl))
 f311 := Tryz.func154.trans (congrArg some (by kernel_rfl))
 f312 := Tryz.func155.trans (congrArg some (by kernel_rfl))
 t0 := Tryz.underlying0
 a0 := Tryz.isAgg0
 z0 := Tryz.sizeOf0
 v0 := Tryz.zeroValue0
 t3 := Tryz.underlying3
 a3 := Tryz.isAgg3
 z3 := Tryz.sizeOf3
 v3 := Tryz.zeroValue3
 t4 := Tryz.underlying4
 a4 := Tryz.isAgg4
 z4 := Tryz.sizeOf4
 v4 := Tryz.zeroValue4
 t5 := Tryz.underlying5
 a5 := Tryz.isAgg5
 z5 := Tryz.sizeOf5
 v5 := Tryz.zeroValue5
 t9 := Tryz.underlying9
 a9 := Tryz.isAgg9
 z9 := Tryz.sizeOf9
 v9 := Tryz.zeroValue9
 t21 := Tryz.underlying21
 a21 := Tryz.isAgg21
 z21 := Tryz.sizeOf21
 v21 := Tryz.zeroValue21
 t31 := Tryz.underlying175
 a31 := Tryz.isAgg175
 z31 := Tryz.sizeOf175
 v31 := Tryz.zeroValue175
 t40 := Tryz.underlying206
 a40 := Tryz.isAgg206
 z40 := Tryz.sizeOf206
 v40 := Tryz.zeroValue206
 t46 := Tryz.underlying114
 a46 := Tryz.isAgg114
 z46 := Tryz.sizeOf114
 v46 := Tryz.zeroValue114
 t49 := Tryz.underlying218
 a49 := Tryz.isAgg218
 z49 := Tryz.sizeOf218
 v49 := Tryz.zeroValue218
 t51 := Tryz.underlying191
 a51 := Tryz.isAgg191
 z51 := Tryz.sizeOf191
 v51 := Tryz.zeroValue191
 t119 := Tryz.underlying204
 a119 := Tryz.isAgg204
 z119 := Tryz.sizeOf204
 t141 := Tryz.underlying213
 a141 := Tryz.isAgg213
 z141 := Tryz.sizeOf213
 v141 := Tryz.zeroValue213
 t152 := Tryz.underlying209
 a152 := Tryz.isAgg209
 z152 := Tryz.sizeOf209
 v152 := Tryz.zeroValue209
 t154 := Tryz.underlying211
 a154 := Tryz.isAgg211
 z154 := Tryz.sizeOf211
 v154 := Tryz.zeroValue211
 t193 := Tryz.underlying214
 a193 := Tryz.isAgg214
 z193 := Tryz.sizeOf214
 v193 := Tryz.zeroValue214
 t194 := Tryz.underlying215
 a194 := Tryz.isAgg215
 z194 := Tryz.sizeOf215
 v194 := Tryz.zeroValue215
 t196 := Tryz.underlying217
 a196 := Tryz.isAgg217
 z196 := Tryz.sizeOf217
 v196 := Tryz.zeroValue217
 t198 := Tryz.underlying220
 a198 := Tryz.isAgg220
 z198 := Tryz.sizeOf220
 v198 := Tryz.zeroValue220
 t201 := Tryz.underlying223
 a201 := Tryz.isAgg223
 z201 := Tryz.sizeOf223
 v201 := Tryz.zeroValue223
 t226 := Tryz.underlying225
 a226 := Tryz.isAgg225
 z226 := Tryz.sizeOf225
 v226 := Tryz.zeroValue225
 t227 := Tryz.underlying226
 a227 := Tryz.isAgg226
 z227 := Tryz.sizeOf226
 v227 := Tryz.zeroValue226
 g0 := by kernel_rfl
 g6 := by kernel_rfl }
open Go.RowKit Go.Lib in
theorem Tryz.strings_Fields (s : ByteArray) (w : World) (hs : s.size < 4294967281) (hascii : ∀ (j : Nat) b,s.data.toList[j]? = some b → b.toNat < 128) (htab : Lib.TabIs Tryz.prog w "strings.asciiSpace" .u8 Lib.asciiSpaceTab) :
  Calls Tryz.prog 138 #[.string s] w fun e w' =>
   e = .returned (.slice (some ⟨w.heap.size,0,none⟩) (Lib.fields s.data.toList).length (Lib.fields s.data.toList).length) ∧ w' = w.alloc (.cells ((Lib.fields s.data.toList).map fun l => Value.string ⟨l.toArray⟩).toArray 9) := Any.strings_Fields Tryz.lays157 (by kernel_rfl) (by kernel_rfl) s w hs hascii htab
def Tryz.lays110_ren : Go.Shelf.Ren := ⟨fun | 110 => 114 | 109 => 137 | n => n,fun | 31 => 175 | 9 => 9 | 4 => 4 | 3 => 3 | 0 => 0 | n => n,fun | n => n⟩
theorem Tryz.lays110 : Go.Proofs.Lays.n110 Tryz.prog Tryz.lays110_ren := {
 mixed := by kernel_rfl
 f109 := Tryz.func137.trans (congrArg some (by kernel_rfl))
 f110 := Tryz.func114.trans (congrArg some (by kernel_rfl))
 t0 := Tryz.underlying0
 a0 := Tryz.isAgg0
 z0 := Tryz.sizeOf0
 v0 := Tryz.zeroValue0
 t3 := Tryz.underlying3
 a3 := Tryz.isAgg3
 z3 := Tryz.sizeOf3
 v3 := Tryz.zeroValue3
 t4 := Tryz.underlying4
 a4 := Tryz.isAgg4
 z4 := Tryz.sizeOf4
 v4 := Tryz.zeroValue4
 t9 := Tryz.underlying9
 a9 := Tryz.isAgg9
 z9 := Tryz.sizeOf9
 v9 := Tryz.zeroValue9
 t31 := Tryz.underlying175
 a31 := Tryz.isAgg175
 z31 := Tryz.sizeOf175
 v31 := Tryz.zeroValue175 }
open Go.Lib in
theorem Tryz.slices_Contains_string (b off n c : Nat) (zs : List ByteArray) (x : ByteArray) (w : World) (hz : n ≤ zs.length) (hbig : n ≤ 9223372036854775807) (hc : ∀ j,j < zs.length → w.cell? ⟨b,off + j,none⟩ = some (.string (zs.getD j ByteArray.empty))) :
  Calls Tryz.prog 114 #[.slice (some ⟨b,off,none⟩) n c,.string x] w fun e w' => e = .returned (.bool (Lib.containsS (zs.take n) x)) ∧ w' = w := Any.slices_Contains_string Tryz.lays110 b off n c zs x w hz hbig hc
end Go.Proofs
