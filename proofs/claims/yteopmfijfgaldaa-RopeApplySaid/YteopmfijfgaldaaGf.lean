/- The facts on the types of this translation that the engine wants. Printed by facts.py. -/
import Derived.Test.YteopmfijfgaldaaProg
import Derived.Test.YteopmfijfgaldaaGr
namespace Go.Proofs.Yteopmfijfgaldaa
set_option linter.unusedVariables false
set_option linter.unusedSimpArgs false
open Go.Gx
theorem ty1 : Ty Try.prog 1 1 false := ⟨Try.sizeOf1, Try.isAgg1⟩
theorem ty2 : Ty Try.prog 2 1 false := ⟨Try.sizeOf2, Try.isAgg2⟩
theorem ty3 : Ty Try.prog 3 1 false := ⟨Try.sizeOf3, Try.isAgg3⟩
theorem ty4 : Ty Try.prog 4 1 false := ⟨Try.sizeOf4, Try.isAgg4⟩
theorem ty5 : Ty Try.prog 5 1 false := ⟨Try.sizeOf5, Try.isAgg5⟩
theorem ty6 : Ty Try.prog 6 1 false := ⟨Try.sizeOf6, Try.isAgg6⟩
theorem ty7 : Ty Try.prog 7 4 true := ⟨Try.sizeOf7, Try.isAgg7⟩
theorem ty8 : Ty Try.prog 8 4 true := ⟨Try.sizeOf8, Try.isAgg8⟩
theorem ty9 : Ty Try.prog 9 1 false := ⟨Try.sizeOf9, Try.isAgg9⟩
theorem ty10 : Ty Try.prog 10 1 false := ⟨Try.sizeOf10, Try.isAgg10⟩
theorem ty11 : Ty Try.prog 11 1 false := ⟨Try.sizeOf11, Try.isAgg11⟩
theorem ty12 : Ty Try.prog 12 1 false := ⟨Try.sizeOf12, Try.isAgg12⟩
theorem ty13 : Ty Try.prog 13 2 true := ⟨Try.sizeOf13, Try.isAgg13⟩
theorem ty14 : Ty Try.prog 14 2 true := ⟨Try.sizeOf14, Try.isAgg14⟩
theorem ty15 : Ty Try.prog 15 1 false := ⟨Try.sizeOf15, Try.isAgg15⟩
theorem ty16 : Ty Try.prog 16 1 false := ⟨Try.sizeOf16, Try.isAgg16⟩
theorem ty17 : Ty Try.prog 17 1 false := ⟨Try.sizeOf17, Try.isAgg17⟩
theorem ty18 : Ty Try.prog 18 1 true := ⟨Try.sizeOf18, Try.isAgg18⟩
theorem ty19 : Ty Try.prog 19 1 true := ⟨Try.sizeOf19, Try.isAgg19⟩
theorem ty20 : Ty Try.prog 20 1 false := ⟨Try.sizeOf20, Try.isAgg20⟩
theorem ty21 : Ty Try.prog 21 1 false := ⟨Try.sizeOf21, Try.isAgg21⟩
theorem ty22 : Ty Try.prog 22 1 false := ⟨Try.sizeOf22, Try.isAgg22⟩
theorem ty23 : Ty Try.prog 23 1 false := ⟨Try.sizeOf23, Try.isAgg23⟩
theorem ty24 : Ty Try.prog 24 1 false := ⟨Try.sizeOf24, Try.isAgg24⟩
theorem ty25 : Ty Try.prog 25 1 false := ⟨Try.sizeOf25, Try.isAgg25⟩
theorem ty26 : Ty Try.prog 26 1 true := ⟨Try.sizeOf26, Try.isAgg26⟩
theorem ty27 : Ty Try.prog 27 1 true := ⟨Try.sizeOf27, Try.isAgg27⟩
theorem ty28 : Ty Try.prog 28 1 false := ⟨Try.sizeOf28, Try.isAgg28⟩
theorem ty29 : Ty Try.prog 29 1 false := ⟨Try.sizeOf29, Try.isAgg29⟩
theorem ty30 : Ty Try.prog 30 1 false := ⟨Try.sizeOf30, Try.isAgg30⟩
theorem ty31 : Ty Try.prog 31 1 false := ⟨Try.sizeOf31, Try.isAgg31⟩
theorem ty32 : Ty Try.prog 32 1 false := ⟨Try.sizeOf32, Try.isAgg32⟩
theorem ty34 : Ty Try.prog 34 1 false := ⟨Try.sizeOf34, Try.isAgg34⟩
theorem ty36 : Ty Try.prog 36 1 false := ⟨Try.sizeOf36, Try.isAgg36⟩
theorem ty37 : Ty Try.prog 37 1 false := ⟨Try.sizeOf37, Try.isAgg37⟩
theorem ty38 : Ty Try.prog 38 1 false := ⟨Try.sizeOf38, Try.isAgg38⟩
theorem ty39 : Ty Try.prog 39 1 false := ⟨Try.sizeOf39, Try.isAgg39⟩
theorem ty40 : Ty Try.prog 40 1 false := ⟨Try.sizeOf40, Try.isAgg40⟩
theorem ty41 : Ty Try.prog 41 1 false := ⟨Try.sizeOf41, Try.isAgg41⟩
theorem ty42 : Ty Try.prog 42 1 false := ⟨Try.sizeOf42, Try.isAgg42⟩
theorem ty43 : Ty Try.prog 43 1 false := ⟨Try.sizeOf43, Try.isAgg43⟩
theorem ty44 : Ty Try.prog 44 1 false := ⟨Try.sizeOf44, Try.isAgg44⟩
theorem ty46 : Ty Try.prog 46 1 false := ⟨Try.sizeOf46, Try.isAgg46⟩
theorem ty48 : Ty Try.prog 48 1 false := ⟨Try.sizeOf48, Try.isAgg48⟩
theorem ty49 : Ty Try.prog 49 1 false := ⟨Try.sizeOf49, Try.isAgg49⟩
theorem ty50 : Ty Try.prog 50 1 false := ⟨Try.sizeOf50, Try.isAgg50⟩
theorem ty51 : Ty Try.prog 51 1 false := ⟨Try.sizeOf51, Try.isAgg51⟩
theorem ty52 : Ty Try.prog 52 2 true := ⟨Try.sizeOf52, Try.isAgg52⟩
theorem ty53 : Ty Try.prog 53 2 true := ⟨Try.sizeOf53, Try.isAgg53⟩
theorem ty54 : Ty Try.prog 54 1 false := ⟨Try.sizeOf54, Try.isAgg54⟩
theorem ty55 : Ty Try.prog 55 6 true := ⟨Try.sizeOf55, Try.isAgg55⟩
theorem ty56 : Ty Try.prog 56 6 true := ⟨Try.sizeOf56, Try.isAgg56⟩
theorem ty58 : Ty Try.prog 58 1 false := ⟨Try.sizeOf58, Try.isAgg58⟩
theorem ty59 : Ty Try.prog 59 1 false := ⟨Try.sizeOf59, Try.isAgg59⟩
theorem ty60 : Ty Try.prog 60 1 false := ⟨Try.sizeOf60, Try.isAgg60⟩
theorem ty62 : Ty Try.prog 62 1 false := ⟨Try.sizeOf62, Try.isAgg62⟩
theorem ty63 : Ty Try.prog 63 1 false := ⟨Try.sizeOf63, Try.isAgg63⟩
theorem ty64 : Ty Try.prog 64 3 true := ⟨Try.sizeOf64, Try.isAgg64⟩
theorem ty65 : Ty Try.prog 65 3 true := ⟨Try.sizeOf65, Try.isAgg65⟩
theorem ty66 : Ty Try.prog 66 1 false := ⟨Try.sizeOf66, Try.isAgg66⟩
theorem ty67 : Ty Try.prog 67 1 false := ⟨Try.sizeOf67, Try.isAgg67⟩
theorem ty69 : Ty Try.prog 69 1 false := ⟨Try.sizeOf69, Try.isAgg69⟩
theorem ty70 : Ty Try.prog 70 1 false := ⟨Try.sizeOf70, Try.isAgg70⟩
theorem ty71 : Ty Try.prog 71 1 false := ⟨Try.sizeOf71, Try.isAgg71⟩
theorem ty72 : Ty Try.prog 72 1 false := ⟨Try.sizeOf72, Try.isAgg72⟩
theorem ty73 : Ty Try.prog 73 4 true := ⟨Try.sizeOf73, Try.isAgg73⟩
theorem ty74 : Ty Try.prog 74 4 true := ⟨Try.sizeOf74, Try.isAgg74⟩
theorem ty75 : Ty Try.prog 75 0 true := ⟨Try.sizeOf75, Try.isAgg75⟩
theorem ty76 : Ty Try.prog 76 0 true := ⟨Try.sizeOf76, Try.isAgg76⟩
theorem ty77 : Ty Try.prog 77 0 true := ⟨Try.sizeOf77, Try.isAgg77⟩
theorem ty78 : Ty Try.prog 78 1 false := ⟨Try.sizeOf78, Try.isAgg78⟩
theorem ty79 : Ty Try.prog 79 1 false := ⟨Try.sizeOf79, Try.isAgg79⟩
theorem ty80 : Ty Try.prog 80 1 false := ⟨Try.sizeOf80, Try.isAgg80⟩
theorem ty81 : Ty Try.prog 81 1 false := ⟨Try.sizeOf81, Try.isAgg81⟩
theorem ty82 : Ty Try.prog 82 1 false := ⟨Try.sizeOf82, Try.isAgg82⟩
theorem ty83 : Ty Try.prog 83 1 false := ⟨Try.sizeOf83, Try.isAgg83⟩
theorem ty84 : Ty Try.prog 84 11 true := ⟨Try.sizeOf84, Try.isAgg84⟩
theorem ty85 : Ty Try.prog 85 11 true := ⟨Try.sizeOf85, Try.isAgg85⟩
theorem fa27_0 : FA Try.prog 27 0 0 := FA.mk2 Try.underlying27 rfl rfl rfl ty25
theorem fa53_0 : FA Try.prog 53 0 0 := FA.mk2 Try.underlying53 rfl rfl rfl ty50
theorem fa53_1 : FA Try.prog 53 1 1 := FA.mk2 Try.underlying53 rfl rfl rfl ty51
theorem fa56_0 : FA Try.prog 56 0 0 := FA.mk2 Try.underlying56 rfl rfl rfl ty25
theorem fa56_1 : FA Try.prog 56 1 1 := FA.mk2 Try.underlying56 rfl rfl rfl ty25
theorem fa56_2 : FA Try.prog 56 2 2 := FA.mk2 Try.underlying56 rfl rfl rfl ty9
theorem fa56_3 : FA Try.prog 56 3 3 := FA.mk2 Try.underlying56 rfl rfl rfl ty3
theorem fa56_4 : FA Try.prog 56 4 4 := FA.mk2 Try.underlying56 rfl rfl rfl ty3
theorem fa56_5 : FA Try.prog 56 5 5 := FA.mk2 Try.underlying56 rfl rfl rfl ty3
theorem fa65_0 : FA Try.prog 65 0 0 := FA.mk2 Try.underlying65 rfl rfl rfl ty3
theorem fa65_1 : FA Try.prog 65 1 1 := FA.mk2 Try.underlying65 rfl rfl rfl ty3
theorem fa65_2 : FA Try.prog 65 2 2 := FA.mk2 Try.underlying65 rfl rfl rfl ty9
theorem pt25 : Try.prog.underlying 25 = some (.pointer (Try.prog.pointee 25)) := by kernel_rfl
theorem pt50 : Try.prog.underlying 50 = some (.pointer (Try.prog.pointee 50)) := by kernel_rfl
theorem bd27  (w : World) : (Instr.build 27 [].toArray).run Try.prog w = .ok (.agg #[.pointer none]) w := by kernel_rfl
theorem bd27_0 (x1 : Option Addr) (w : World) : (Instr.build 27 [(0, .pointer x1)].toArray).run Try.prog w = .ok (.agg #[.pointer x1]) w := by kernel_rfl
theorem bd56_0_1_3_4_5 (x1 : Option Addr) (x2 : Option Addr) (x3 : Int) (x4 : Int) (x5 : Int) (w : World) : (Instr.build 56 [(0, .pointer x1), (1, .pointer x2), (3, .int .i64 x3), (4, .int .i64 x4), (5, .int .i64 x5)].toArray).run Try.prog w = .ok (.agg #[.pointer x1, .pointer x2, .string ⟨#[]⟩, .int .i64 x3, .int .i64 x4, .int .i64 x5]) w := by kernel_rfl
theorem bd56_2_3_5 (x1 : ByteArray) (x2 : Int) (x3 : Int) (w : World) : (Instr.build 56 [(2, .string x1), (3, .int .i64 x2), (5, .int .i64 x3)].toArray).run Try.prog w = .ok (.agg #[.pointer none, .pointer none, .string x1, .int .i64 x2, .int .i64 0, .int .i64 x3]) w := by kernel_rfl
theorem bs22_1 (x1 : ByteArray) (w : World) : (Instr.buildSlice 22 1 [(0, .string x1)].toArray).run Try.prog w = .ok (.slice (some ⟨w.heap.size, 0, none⟩) 1 1) (w.alloc (.cells [.string x1].toArray 9)) := by kernel_rfl
theorem inf3 : ∃ i, Try.prog.info? 3 = some i ∧ i.zero = some (.int .i64 0) ∧ i.size = 1 ∧ i.bytes = 8 := info_parts (by kernel_rfl)
theorem inf5 : ∃ i, Try.prog.info? 5 = some i ∧ i.zero = some (.int .u8 0) ∧ i.size = 1 ∧ i.bytes = 1 := info_parts (by kernel_rfl)
theorem inf9 : ∃ i, Try.prog.info? 9 = some i ∧ i.zero = some (.string ⟨#[]⟩) ∧ i.size = 1 ∧ i.bytes = 16 := info_parts (by kernel_rfl)
theorem inf53 : ∃ i, Try.prog.info? 53 = some i ∧ i.zero = some (.agg #[.pointer none, .slice none 0 0]) ∧ i.size = 2 ∧ i.bytes = 32 := info_parts (by kernel_rfl)
theorem inf56 : ∃ i, Try.prog.info? 56 = some i ∧ i.zero = some (.agg #[.pointer none, .pointer none, .string ⟨#[]⟩, .int .i64 0, .int .i64 0, .int .i64 0]) ∧ i.size = 6 ∧ i.bytes = 56 := info_parts (by kernel_rfl)
theorem inf65 : ∃ i, Try.prog.info? 65 = some i ∧ i.zero = some (.agg #[.int .i64 0, .int .i64 0, .string ⟨#[]⟩]) ∧ i.size = 3 ∧ i.bytes = 32 := info_parts (by kernel_rfl)
theorem inf74 : ∃ i, Try.prog.info? 74 = some i ∧ i.zero = some (.agg #[.pointer none, .pointer none, .pointer none, .string ⟨#[]⟩]) ∧ i.size = 4 ∧ i.bytes = 40 := info_parts (by kernel_rfl)
theorem inf77 : ∃ i, Try.prog.info? 77 = some i ∧ i.zero = some (.agg #[]) ∧ i.size = 0 ∧ i.bytes = 0 := info_parts (by kernel_rfl)
theorem inf85 : ∃ i, Try.prog.info? 85 = some i ∧ i.zero = some (.agg #[.int .u64 0, .int .u64 0, .int .u32 0, .int .u8 0, .int .u8 0, .int .u8 0, .int .u8 0, .nilFunc, .pointer none, .int .i32 0, .int .i32 0]) ∧ i.size = 11 ∧ i.bytes = 48 := info_parts (by kernel_rfl)
theorem mixed : Try.prog.follows .mixedOrders = true := by kernel_rfl
end Go.Proofs.Yteopmfijfgaldaa
