/- The facts on the types of this translation that the engine wants. Printed by facts.py. -/
import Derived.Test.YteopmfijfgaldaaDoorProg
import Derived.Test.YteopmfijfgaldaaDoorGr
namespace Go.Proofs.YteopmfijfgaldaaDoor
set_option linter.unusedVariables false
set_option linter.unusedSimpArgs false
open Go.Gx
theorem ty1 : Ty Tryd.prog 1 1 false := ⟨Tryd.sizeOf1, Tryd.isAgg1⟩
theorem ty2 : Ty Tryd.prog 2 1 false := ⟨Tryd.sizeOf2, Tryd.isAgg2⟩
theorem ty3 : Ty Tryd.prog 3 1 false := ⟨Tryd.sizeOf3, Tryd.isAgg3⟩
theorem ty4 : Ty Tryd.prog 4 1 false := ⟨Tryd.sizeOf4, Tryd.isAgg4⟩
theorem ty5 : Ty Tryd.prog 5 1 false := ⟨Tryd.sizeOf5, Tryd.isAgg5⟩
theorem ty6 : Ty Tryd.prog 6 1 false := ⟨Tryd.sizeOf6, Tryd.isAgg6⟩
theorem ty7 : Ty Tryd.prog 7 4 true := ⟨Tryd.sizeOf7, Tryd.isAgg7⟩
theorem ty8 : Ty Tryd.prog 8 4 true := ⟨Tryd.sizeOf8, Tryd.isAgg8⟩
theorem ty9 : Ty Tryd.prog 9 1 false := ⟨Tryd.sizeOf9, Tryd.isAgg9⟩
theorem ty10 : Ty Tryd.prog 10 1 false := ⟨Tryd.sizeOf10, Tryd.isAgg10⟩
theorem ty11 : Ty Tryd.prog 11 1 false := ⟨Tryd.sizeOf11, Tryd.isAgg11⟩
theorem ty12 : Ty Tryd.prog 12 1 false := ⟨Tryd.sizeOf12, Tryd.isAgg12⟩
theorem ty13 : Ty Tryd.prog 13 2 true := ⟨Tryd.sizeOf13, Tryd.isAgg13⟩
theorem ty14 : Ty Tryd.prog 14 2 true := ⟨Tryd.sizeOf14, Tryd.isAgg14⟩
theorem ty15 : Ty Tryd.prog 15 1 false := ⟨Tryd.sizeOf15, Tryd.isAgg15⟩
theorem ty16 : Ty Tryd.prog 16 1 false := ⟨Tryd.sizeOf16, Tryd.isAgg16⟩
theorem ty17 : Ty Tryd.prog 17 1 false := ⟨Tryd.sizeOf17, Tryd.isAgg17⟩
theorem ty18 : Ty Tryd.prog 18 1 true := ⟨Tryd.sizeOf18, Tryd.isAgg18⟩
theorem ty19 : Ty Tryd.prog 19 1 true := ⟨Tryd.sizeOf19, Tryd.isAgg19⟩
theorem ty20 : Ty Tryd.prog 20 1 false := ⟨Tryd.sizeOf20, Tryd.isAgg20⟩
theorem ty21 : Ty Tryd.prog 21 1 false := ⟨Tryd.sizeOf21, Tryd.isAgg21⟩
theorem ty22 : Ty Tryd.prog 22 1 false := ⟨Tryd.sizeOf22, Tryd.isAgg22⟩
theorem ty23 : Ty Tryd.prog 23 1 false := ⟨Tryd.sizeOf23, Tryd.isAgg23⟩
theorem ty24 : Ty Tryd.prog 24 2 true := ⟨Tryd.sizeOf24, Tryd.isAgg24⟩
theorem ty25 : Ty Tryd.prog 25 2 true := ⟨Tryd.sizeOf25, Tryd.isAgg25⟩
theorem ty26 : Ty Tryd.prog 26 1 false := ⟨Tryd.sizeOf26, Tryd.isAgg26⟩
theorem ty28 : Ty Tryd.prog 28 1 false := ⟨Tryd.sizeOf28, Tryd.isAgg28⟩
theorem ty29 : Ty Tryd.prog 29 1 false := ⟨Tryd.sizeOf29, Tryd.isAgg29⟩
theorem ty30 : Ty Tryd.prog 30 1 false := ⟨Tryd.sizeOf30, Tryd.isAgg30⟩
theorem ty31 : Ty Tryd.prog 31 1 false := ⟨Tryd.sizeOf31, Tryd.isAgg31⟩
theorem ty33 : Ty Tryd.prog 33 1 false := ⟨Tryd.sizeOf33, Tryd.isAgg33⟩
theorem ty34 : Ty Tryd.prog 34 1 false := ⟨Tryd.sizeOf34, Tryd.isAgg34⟩
theorem ty35 : Ty Tryd.prog 35 1 false := ⟨Tryd.sizeOf35, Tryd.isAgg35⟩
theorem ty37 : Ty Tryd.prog 37 1 false := ⟨Tryd.sizeOf37, Tryd.isAgg37⟩
theorem ty38 : Ty Tryd.prog 38 2 true := ⟨Tryd.sizeOf38, Tryd.isAgg38⟩
theorem ty39 : Ty Tryd.prog 39 2 true := ⟨Tryd.sizeOf39, Tryd.isAgg39⟩
theorem ty40 : Ty Tryd.prog 40 1 false := ⟨Tryd.sizeOf40, Tryd.isAgg40⟩
theorem ty41 : Ty Tryd.prog 41 1 false := ⟨Tryd.sizeOf41, Tryd.isAgg41⟩
theorem ty42 : Ty Tryd.prog 42 1 false := ⟨Tryd.sizeOf42, Tryd.isAgg42⟩
theorem ty43 : Ty Tryd.prog 43 1 false := ⟨Tryd.sizeOf43, Tryd.isAgg43⟩
theorem ty44 : Ty Tryd.prog 44 1 false := ⟨Tryd.sizeOf44, Tryd.isAgg44⟩
theorem ty45 : Ty Tryd.prog 45 1 false := ⟨Tryd.sizeOf45, Tryd.isAgg45⟩
theorem ty46 : Ty Tryd.prog 46 1 false := ⟨Tryd.sizeOf46, Tryd.isAgg46⟩
theorem ty47 : Ty Tryd.prog 47 3 true := ⟨Tryd.sizeOf47, Tryd.isAgg47⟩
theorem ty48 : Ty Tryd.prog 48 3 true := ⟨Tryd.sizeOf48, Tryd.isAgg48⟩
theorem ty50 : Ty Tryd.prog 50 1 false := ⟨Tryd.sizeOf50, Tryd.isAgg50⟩
theorem ty51 : Ty Tryd.prog 51 1 false := ⟨Tryd.sizeOf51, Tryd.isAgg51⟩
theorem ty52 : Ty Tryd.prog 52 1 false := ⟨Tryd.sizeOf52, Tryd.isAgg52⟩
theorem ty53 : Ty Tryd.prog 53 1 false := ⟨Tryd.sizeOf53, Tryd.isAgg53⟩
theorem ty54 : Ty Tryd.prog 54 1 false := ⟨Tryd.sizeOf54, Tryd.isAgg54⟩
theorem ty55 : Ty Tryd.prog 55 1 false := ⟨Tryd.sizeOf55, Tryd.isAgg55⟩
theorem ty57 : Ty Tryd.prog 57 1 false := ⟨Tryd.sizeOf57, Tryd.isAgg57⟩
theorem ty59 : Ty Tryd.prog 59 1 false := ⟨Tryd.sizeOf59, Tryd.isAgg59⟩
theorem ty60 : Ty Tryd.prog 60 1 false := ⟨Tryd.sizeOf60, Tryd.isAgg60⟩
theorem ty61 : Ty Tryd.prog 61 1 false := ⟨Tryd.sizeOf61, Tryd.isAgg61⟩
theorem ty62 : Ty Tryd.prog 62 1 false := ⟨Tryd.sizeOf62, Tryd.isAgg62⟩
theorem ty63 : Ty Tryd.prog 63 1 false := ⟨Tryd.sizeOf63, Tryd.isAgg63⟩
theorem ty65 : Ty Tryd.prog 65 1 false := ⟨Tryd.sizeOf65, Tryd.isAgg65⟩
theorem ty66 : Ty Tryd.prog 66 1 false := ⟨Tryd.sizeOf66, Tryd.isAgg66⟩
theorem ty67 : Ty Tryd.prog 67 1 false := ⟨Tryd.sizeOf67, Tryd.isAgg67⟩
theorem ty68 : Ty Tryd.prog 68 1 false := ⟨Tryd.sizeOf68, Tryd.isAgg68⟩
theorem ty69 : Ty Tryd.prog 69 1 false := ⟨Tryd.sizeOf69, Tryd.isAgg69⟩
theorem ty70 : Ty Tryd.prog 70 1 false := ⟨Tryd.sizeOf70, Tryd.isAgg70⟩
theorem ty71 : Ty Tryd.prog 71 1 false := ⟨Tryd.sizeOf71, Tryd.isAgg71⟩
theorem ty72 : Ty Tryd.prog 72 1 false := ⟨Tryd.sizeOf72, Tryd.isAgg72⟩
theorem ty73 : Ty Tryd.prog 73 1 false := ⟨Tryd.sizeOf73, Tryd.isAgg73⟩
theorem ty74 : Ty Tryd.prog 74 2 true := ⟨Tryd.sizeOf74, Tryd.isAgg74⟩
theorem ty75 : Ty Tryd.prog 75 2 true := ⟨Tryd.sizeOf75, Tryd.isAgg75⟩
theorem ty76 : Ty Tryd.prog 76 1 false := ⟨Tryd.sizeOf76, Tryd.isAgg76⟩
theorem ty77 : Ty Tryd.prog 77 1 false := ⟨Tryd.sizeOf77, Tryd.isAgg77⟩
theorem ty79 : Ty Tryd.prog 79 1 false := ⟨Tryd.sizeOf79, Tryd.isAgg79⟩
theorem ty80 : Ty Tryd.prog 80 1 false := ⟨Tryd.sizeOf80, Tryd.isAgg80⟩
theorem ty82 : Ty Tryd.prog 82 1 false := ⟨Tryd.sizeOf82, Tryd.isAgg82⟩
theorem ty83 : Ty Tryd.prog 83 1 false := ⟨Tryd.sizeOf83, Tryd.isAgg83⟩
theorem ty84 : Ty Tryd.prog 84 1 false := ⟨Tryd.sizeOf84, Tryd.isAgg84⟩
theorem ty85 : Ty Tryd.prog 85 1 false := ⟨Tryd.sizeOf85, Tryd.isAgg85⟩
theorem ty86 : Ty Tryd.prog 86 1 false := ⟨Tryd.sizeOf86, Tryd.isAgg86⟩
theorem ty87 : Ty Tryd.prog 87 1 false := ⟨Tryd.sizeOf87, Tryd.isAgg87⟩
theorem ty88 : Ty Tryd.prog 88 1 false := ⟨Tryd.sizeOf88, Tryd.isAgg88⟩
theorem ty89 : Ty Tryd.prog 89 1 false := ⟨Tryd.sizeOf89, Tryd.isAgg89⟩
theorem ty90 : Ty Tryd.prog 90 256 true := ⟨Tryd.sizeOf90, Tryd.isAgg90⟩
theorem ty91 : Ty Tryd.prog 91 2 true := ⟨Tryd.sizeOf91, Tryd.isAgg91⟩
theorem ty92 : Ty Tryd.prog 92 2 true := ⟨Tryd.sizeOf92, Tryd.isAgg92⟩
theorem ty93 : Ty Tryd.prog 93 32 true := ⟨Tryd.sizeOf93, Tryd.isAgg93⟩
theorem ty94 : Ty Tryd.prog 94 1 false := ⟨Tryd.sizeOf94, Tryd.isAgg94⟩
theorem ty95 : Ty Tryd.prog 95 1 false := ⟨Tryd.sizeOf95, Tryd.isAgg95⟩
theorem ty96 : Ty Tryd.prog 96 1 false := ⟨Tryd.sizeOf96, Tryd.isAgg96⟩
theorem ty97 : Ty Tryd.prog 97 1 false := ⟨Tryd.sizeOf97, Tryd.isAgg97⟩
theorem ty98 : Ty Tryd.prog 98 1 false := ⟨Tryd.sizeOf98, Tryd.isAgg98⟩
theorem ty99 : Ty Tryd.prog 99 1 false := ⟨Tryd.sizeOf99, Tryd.isAgg99⟩
theorem ty100 : Ty Tryd.prog 100 2 true := ⟨Tryd.sizeOf100, Tryd.isAgg100⟩
theorem ty101 : Ty Tryd.prog 101 2 true := ⟨Tryd.sizeOf101, Tryd.isAgg101⟩
theorem ty102 : Ty Tryd.prog 102 1 false := ⟨Tryd.sizeOf102, Tryd.isAgg102⟩
theorem ty103 : Ty Tryd.prog 103 1 false := ⟨Tryd.sizeOf103, Tryd.isAgg103⟩
theorem ty104 : Ty Tryd.prog 104 1 false := ⟨Tryd.sizeOf104, Tryd.isAgg104⟩
theorem ty106 : Ty Tryd.prog 106 1 false := ⟨Tryd.sizeOf106, Tryd.isAgg106⟩
theorem ty107 : Ty Tryd.prog 107 1 false := ⟨Tryd.sizeOf107, Tryd.isAgg107⟩
theorem ty108 : Ty Tryd.prog 108 1 false := ⟨Tryd.sizeOf108, Tryd.isAgg108⟩
theorem ty109 : Ty Tryd.prog 109 3 true := ⟨Tryd.sizeOf109, Tryd.isAgg109⟩
theorem ty110 : Ty Tryd.prog 110 3 true := ⟨Tryd.sizeOf110, Tryd.isAgg110⟩
theorem ty111 : Ty Tryd.prog 111 1 false := ⟨Tryd.sizeOf111, Tryd.isAgg111⟩
theorem ty112 : Ty Tryd.prog 112 3 true := ⟨Tryd.sizeOf112, Tryd.isAgg112⟩
theorem ty113 : Ty Tryd.prog 113 3 true := ⟨Tryd.sizeOf113, Tryd.isAgg113⟩
theorem ty114 : Ty Tryd.prog 114 1 false := ⟨Tryd.sizeOf114, Tryd.isAgg114⟩
theorem ty115 : Ty Tryd.prog 115 3 true := ⟨Tryd.sizeOf115, Tryd.isAgg115⟩
theorem ty116 : Ty Tryd.prog 116 3 true := ⟨Tryd.sizeOf116, Tryd.isAgg116⟩
theorem ty117 : Ty Tryd.prog 117 1 false := ⟨Tryd.sizeOf117, Tryd.isAgg117⟩
theorem ty118 : Ty Tryd.prog 118 1 false := ⟨Tryd.sizeOf118, Tryd.isAgg118⟩
theorem ty119 : Ty Tryd.prog 119 1 false := ⟨Tryd.sizeOf119, Tryd.isAgg119⟩
theorem ty120 : Ty Tryd.prog 120 4 true := ⟨Tryd.sizeOf120, Tryd.isAgg120⟩
theorem ty121 : Ty Tryd.prog 121 4 true := ⟨Tryd.sizeOf121, Tryd.isAgg121⟩
theorem ty122 : Ty Tryd.prog 122 0 true := ⟨Tryd.sizeOf122, Tryd.isAgg122⟩
theorem ty123 : Ty Tryd.prog 123 0 true := ⟨Tryd.sizeOf123, Tryd.isAgg123⟩
theorem ty124 : Ty Tryd.prog 124 0 true := ⟨Tryd.sizeOf124, Tryd.isAgg124⟩
theorem ty125 : Ty Tryd.prog 125 1 false := ⟨Tryd.sizeOf125, Tryd.isAgg125⟩
theorem ty126 : Ty Tryd.prog 126 1 false := ⟨Tryd.sizeOf126, Tryd.isAgg126⟩
theorem ty127 : Ty Tryd.prog 127 1 false := ⟨Tryd.sizeOf127, Tryd.isAgg127⟩
theorem ty128 : Ty Tryd.prog 128 1 false := ⟨Tryd.sizeOf128, Tryd.isAgg128⟩
theorem ty129 : Ty Tryd.prog 129 1 false := ⟨Tryd.sizeOf129, Tryd.isAgg129⟩
theorem ty130 : Ty Tryd.prog 130 1 false := ⟨Tryd.sizeOf130, Tryd.isAgg130⟩
theorem ty131 : Ty Tryd.prog 131 11 true := ⟨Tryd.sizeOf131, Tryd.isAgg131⟩
theorem ty132 : Ty Tryd.prog 132 11 true := ⟨Tryd.sizeOf132, Tryd.isAgg132⟩
theorem fa25_0 : FA Tryd.prog 25 0 0 := FA.mk2 Tryd.underlying25 rfl rfl rfl ty3
theorem fa25_1 : FA Tryd.prog 25 1 1 := FA.mk2 Tryd.underlying25 rfl rfl rfl ty3
theorem fa39_0 : FA Tryd.prog 39 0 0 := FA.mk2 Tryd.underlying39 rfl rfl rfl ty3
theorem fa39_1 : FA Tryd.prog 39 1 1 := FA.mk2 Tryd.underlying39 rfl rfl rfl ty9
theorem fa48_0 : FA Tryd.prog 48 0 0 := FA.mk2 Tryd.underlying48 rfl rfl rfl ty3
theorem fa48_1 : FA Tryd.prog 48 1 1 := FA.mk2 Tryd.underlying48 rfl rfl rfl ty3
theorem fa48_2 : FA Tryd.prog 48 2 2 := FA.mk2 Tryd.underlying48 rfl rfl rfl ty9
theorem fa75_0 : FA Tryd.prog 75 0 0 := FA.mk2 Tryd.underlying75 rfl rfl rfl ty72
theorem fa75_1 : FA Tryd.prog 75 1 1 := FA.mk2 Tryd.underlying75 rfl rfl rfl ty73
theorem fa92_0 : FA Tryd.prog 92 0 0 := FA.mk2 Tryd.underlying92 rfl rfl rfl ty5
theorem fa92_1 : FA Tryd.prog 92 1 1 := FA.mk2 Tryd.underlying92 rfl rfl rfl ty5
theorem fa101_0 : FA Tryd.prog 101 0 0 := FA.mk2 Tryd.underlying101 rfl rfl rfl ty3
theorem fa101_1 : FA Tryd.prog 101 1 1 := FA.mk2 Tryd.underlying101 rfl rfl rfl ty3
theorem fa110_0 : FA Tryd.prog 110 0 0 := FA.mk2 Tryd.underlying110 rfl rfl rfl ty107
theorem fa110_1 : FA Tryd.prog 110 1 1 := FA.mk2 Tryd.underlying110 rfl rfl rfl ty108
theorem fa110_2 : FA Tryd.prog 110 2 2 := FA.mk2 Tryd.underlying110 rfl rfl rfl ty3
theorem fa113_0 : FA Tryd.prog 113 0 0 := FA.mk2 Tryd.underlying113 rfl rfl rfl ty111
theorem fa113_1 : FA Tryd.prog 113 1 1 := FA.mk2 Tryd.underlying113 rfl rfl rfl ty111
theorem fa113_2 : FA Tryd.prog 113 2 2 := FA.mk2 Tryd.underlying113 rfl rfl rfl ty111
theorem fa116_0 : FA Tryd.prog 116 0 0 := FA.mk2 Tryd.underlying116 rfl rfl rfl ty102
theorem fa116_1 : FA Tryd.prog 116 1 1 := FA.mk2 Tryd.underlying116 rfl rfl rfl ty102
theorem fa116_2 : FA Tryd.prog 116 2 2 := FA.mk2 Tryd.underlying116 rfl rfl rfl ty102
theorem pt72 : Tryd.prog.underlying 72 = some (.pointer (Tryd.prog.pointee 72)) := by kernel_rfl
theorem bd25  (w : World) : (Instr.build 25 [].toArray).run Tryd.prog w = .ok (.agg #[.int .i64 0, .int .i64 0]) w := by kernel_rfl
theorem bd25_0 (x1 : Int) (w : World) : (Instr.build 25 [(0, .int .i64 x1)].toArray).run Tryd.prog w = .ok (.agg #[.int .i64 x1, .int .i64 0]) w := by kernel_rfl
theorem bd25_0_1 (x1 : Int) (x2 : Int) (w : World) : (Instr.build 25 [(0, .int .i64 x1), (1, .int .i64 x2)].toArray).run Tryd.prog w = .ok (.agg #[.int .i64 x1, .int .i64 x2]) w := by kernel_rfl
theorem bd39_0_1 (x1 : Int) (x2 : ByteArray) (w : World) : (Instr.build 39 [(0, .int .i64 x1), (1, .string x2)].toArray).run Tryd.prog w = .ok (.agg #[.int .i64 x1, .string x2]) w := by kernel_rfl
theorem bd48_0_1_2 (x1 : Int) (x2 : Int) (x3 : ByteArray) (w : World) : (Instr.build 48 [(0, .int .i64 x1), (1, .int .i64 x2), (2, .string x3)].toArray).run Tryd.prog w = .ok (.agg #[.int .i64 x1, .int .i64 x2, .string x3]) w := by kernel_rfl
theorem bd92_0_1 (x1 : Int) (x2 : Int) (w : World) : (Instr.build 92 [(0, .int .u8 x1), (1, .int .u8 x2)].toArray).run Tryd.prog w = .ok (.agg #[.int .u8 x1, .int .u8 x2]) w := by kernel_rfl
theorem bd101_0_1 (x1 : Int) (x2 : Int) (w : World) : (Instr.build 101 [(0, .int .i64 x1), (1, .int .i64 x2)].toArray).run Tryd.prog w = .ok (.agg #[.int .i64 x1, .int .i64 x2]) w := by kernel_rfl
theorem bd110_0_2 (x1 : Option Addr) (x2 : Nat) (x3 : Nat) (x4 : Int) (w : World) : (Instr.build 110 [(0, .slice x1 x2 x3), (2, .int .i64 x4)].toArray).run Tryd.prog w = .ok (.agg #[.slice x1 x2 x3, .slice none 0 0, .int .i64 x4]) w := by kernel_rfl
theorem bd113_0_1_2 (x1 : Int) (x2 : Int) (x3 : Int) (w : World) : (Instr.build 113 [(0, .int .u16 x1), (1, .int .u16 x2), (2, .int .u16 x3)].toArray).run Tryd.prog w = .ok (.agg #[.int .u16 x1, .int .u16 x2, .int .u16 x3]) w := by kernel_rfl
theorem bs30_1 (x1 : Int) (w : World) : (Instr.buildSlice 30 1 [(0, .int .i64 x1)].toArray).run Tryd.prog w = .ok (.slice (some ⟨w.heap.size, 0, none⟩) 1 1) (w.alloc (.cells [.int .i64 x1].toArray 3)) := by kernel_rfl
theorem bs35_0  (w : World) : (Instr.buildSlice 35 0 [].toArray).run Tryd.prog w = .ok (.slice (some ⟨w.heap.size, 0, none⟩) 0 0) (w.alloc (.cells [].toArray 39)) := by kernel_rfl
theorem bs35_1 (x1 : Int) (x2 : ByteArray) (w : World) : (Instr.buildSlice 35 1 [(0, .agg #[.int .i64 x1, .string x2])].toArray).run Tryd.prog w = .ok (.slice (some ⟨w.heap.size, 0, none⟩) 1 1) (w.alloc (.cells [.int .i64 x1, .string x2].toArray 39)) := by kernel_rfl
theorem bs35_2 (x1 : Int) (x2 : ByteArray) (x3 : Int) (x4 : ByteArray) (w : World) : (Instr.buildSlice 35 2 [(0, .agg #[.int .i64 x1, .string x2]), (1, .agg #[.int .i64 x3, .string x4])].toArray).run Tryd.prog w = .ok (.slice (some ⟨w.heap.size, 0, none⟩) 2 2) (w.alloc (.cells [.int .i64 x1, .string x2, .int .i64 x3, .string x4].toArray 39)) := by kernel_rfl
theorem bs46_1 (x1 : Int) (x2 : Int) (x3 : ByteArray) (w : World) : (Instr.buildSlice 46 1 [(0, .agg #[.int .i64 x1, .int .i64 x2, .string x3])].toArray).run Tryd.prog w = .ok (.slice (some ⟨w.heap.size, 0, none⟩) 1 1) (w.alloc (.cells [.int .i64 x1, .int .i64 x2, .string x3].toArray 48)) := by kernel_rfl
theorem bs99_1 (x1 : Int) (x2 : Int) (w : World) : (Instr.buildSlice 99 1 [(0, .agg #[.int .i64 x1, .int .i64 x2])].toArray).run Tryd.prog w = .ok (.slice (some ⟨w.heap.size, 0, none⟩) 1 1) (w.alloc (.cells [.int .i64 x1, .int .i64 x2].toArray 101)) := by kernel_rfl
theorem bs107_7 (x1 : Int) (x2 : Int) (x3 : Int) (x4 : Int) (x5 : Int) (x6 : Int) (x7 : Int) (x8 : Int) (x9 : Int) (x10 : Int) (x11 : Int) (x12 : Int) (x13 : Int) (x14 : Int) (x15 : Int) (x16 : Int) (x17 : Int) (x18 : Int) (x19 : Int) (x20 : Int) (x21 : Int) (w : World) : (Instr.buildSlice 107 7 [(0, .agg #[.int .u16 x1, .int .u16 x2, .int .u16 x3]), (1, .agg #[.int .u16 x4, .int .u16 x5, .int .u16 x6]), (2, .agg #[.int .u16 x7, .int .u16 x8, .int .u16 x9]), (3, .agg #[.int .u16 x10, .int .u16 x11, .int .u16 x12]), (4, .agg #[.int .u16 x13, .int .u16 x14, .int .u16 x15]), (5, .agg #[.int .u16 x16, .int .u16 x17, .int .u16 x18]), (6, .agg #[.int .u16 x19, .int .u16 x20, .int .u16 x21])].toArray).run Tryd.prog w = .ok (.slice (some ⟨w.heap.size, 0, none⟩) 7 7) (w.alloc (.cells [.int .u16 x1, .int .u16 x2, .int .u16 x3, .int .u16 x4, .int .u16 x5, .int .u16 x6, .int .u16 x7, .int .u16 x8, .int .u16 x9, .int .u16 x10, .int .u16 x11, .int .u16 x12, .int .u16 x13, .int .u16 x14, .int .u16 x15, .int .u16 x16, .int .u16 x17, .int .u16 x18, .int .u16 x19, .int .u16 x20, .int .u16 x21].toArray 113)) := by kernel_rfl
theorem inf3 : ∃ i, Tryd.prog.info? 3 = some i ∧ i.zero = some (.int .i64 0) ∧ i.size = 1 ∧ i.bytes = 8 := info_parts (by kernel_rfl)
theorem inf5 : ∃ i, Tryd.prog.info? 5 = some i ∧ i.zero = some (.int .u8 0) ∧ i.size = 1 ∧ i.bytes = 1 := info_parts (by kernel_rfl)
theorem inf9 : ∃ i, Tryd.prog.info? 9 = some i ∧ i.zero = some (.string ⟨#[]⟩) ∧ i.size = 1 ∧ i.bytes = 16 := info_parts (by kernel_rfl)
theorem inf39 : ∃ i, Tryd.prog.info? 39 = some i ∧ i.zero = some (.agg #[.int .i64 0, .string ⟨#[]⟩]) ∧ i.size = 2 ∧ i.bytes = 24 := info_parts (by kernel_rfl)
theorem inf48 : ∃ i, Tryd.prog.info? 48 = some i ∧ i.zero = some (.agg #[.int .i64 0, .int .i64 0, .string ⟨#[]⟩]) ∧ i.size = 3 ∧ i.bytes = 32 := info_parts (by kernel_rfl)
theorem inf75 : ∃ i, Tryd.prog.info? 75 = some i ∧ i.zero = some (.agg #[.pointer none, .slice none 0 0]) ∧ i.size = 2 ∧ i.bytes = 32 := info_parts (by kernel_rfl)
theorem inf101 : ∃ i, Tryd.prog.info? 101 = some i ∧ i.zero = some (.agg #[.int .i64 0, .int .i64 0]) ∧ i.size = 2 ∧ i.bytes = 16 := info_parts (by kernel_rfl)
theorem inf110 : ∃ i, Tryd.prog.info? 110 = some i ∧ i.zero = some (.agg #[.slice none 0 0, .slice none 0 0, .int .i64 0]) ∧ i.size = 3 ∧ i.bytes = 56 := info_parts (by kernel_rfl)
theorem inf113 : ∃ i, Tryd.prog.info? 113 = some i ∧ i.zero = some (.agg #[.int .u16 0, .int .u16 0, .int .u16 0]) ∧ i.size = 3 ∧ i.bytes = 6 := info_parts (by kernel_rfl)
theorem inf116 : ∃ i, Tryd.prog.info? 116 = some i ∧ i.zero = some (.agg #[.int .u32 0, .int .u32 0, .int .u32 0]) ∧ i.size = 3 ∧ i.bytes = 12 := info_parts (by kernel_rfl)
theorem inf121 : ∃ i, Tryd.prog.info? 121 = some i ∧ i.zero = some (.agg #[.pointer none, .pointer none, .pointer none, .string ⟨#[]⟩]) ∧ i.size = 4 ∧ i.bytes = 40 := info_parts (by kernel_rfl)
theorem inf124 : ∃ i, Tryd.prog.info? 124 = some i ∧ i.zero = some (.agg #[]) ∧ i.size = 0 ∧ i.bytes = 0 := info_parts (by kernel_rfl)
theorem inf132 : ∃ i, Tryd.prog.info? 132 = some i ∧ i.zero = some (.agg #[.int .u64 0, .int .u64 0, .int .u32 0, .int .u8 0, .int .u8 0, .int .u8 0, .int .u8 0, .nilFunc, .pointer none, .int .i32 0, .int .i32 0]) ∧ i.size = 11 ∧ i.bytes = 48 := info_parts (by kernel_rfl)
theorem mixed : Tryd.prog.follows .mixedOrders = true := by kernel_rfl
end Go.Proofs.YteopmfijfgaldaaDoor
