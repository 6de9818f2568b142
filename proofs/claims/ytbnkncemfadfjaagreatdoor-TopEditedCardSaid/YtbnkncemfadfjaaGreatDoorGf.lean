/- The facts on the types of this translation that the engine wants. Printed by facts.py. -/
import Derived.Test.YtbnkncemfadfjaaGreatDoorProg
import Derived.Test.YtbnkncemfadfjaaGreatDoorGr
set_option linter.unusedVariables false
set_option linter.unusedSimpArgs false
namespace Go.Proofs.YtbnkncemfadfjaaGreatDoor
open Go.Gx
theorem ty1 : Ty Tryz.prog 1 1 false := ⟨Tryz.sizeOf1, Tryz.isAgg1⟩
theorem ty2 : Ty Tryz.prog 2 1 false := ⟨Tryz.sizeOf2, Tryz.isAgg2⟩
theorem ty3 : Ty Tryz.prog 3 1 false := ⟨Tryz.sizeOf3, Tryz.isAgg3⟩
theorem ty4 : Ty Tryz.prog 4 1 false := ⟨Tryz.sizeOf4, Tryz.isAgg4⟩
theorem ty5 : Ty Tryz.prog 5 1 false := ⟨Tryz.sizeOf5, Tryz.isAgg5⟩
theorem ty6 : Ty Tryz.prog 6 1 false := ⟨Tryz.sizeOf6, Tryz.isAgg6⟩
theorem ty7 : Ty Tryz.prog 7 4 true := ⟨Tryz.sizeOf7, Tryz.isAgg7⟩
theorem ty8 : Ty Tryz.prog 8 4 true := ⟨Tryz.sizeOf8, Tryz.isAgg8⟩
theorem ty9 : Ty Tryz.prog 9 1 false := ⟨Tryz.sizeOf9, Tryz.isAgg9⟩
theorem ty10 : Ty Tryz.prog 10 1 false := ⟨Tryz.sizeOf10, Tryz.isAgg10⟩
theorem ty11 : Ty Tryz.prog 11 1 false := ⟨Tryz.sizeOf11, Tryz.isAgg11⟩
theorem ty12 : Ty Tryz.prog 12 1 false := ⟨Tryz.sizeOf12, Tryz.isAgg12⟩
theorem ty13 : Ty Tryz.prog 13 2 true := ⟨Tryz.sizeOf13, Tryz.isAgg13⟩
theorem ty14 : Ty Tryz.prog 14 2 true := ⟨Tryz.sizeOf14, Tryz.isAgg14⟩
theorem ty15 : Ty Tryz.prog 15 1 false := ⟨Tryz.sizeOf15, Tryz.isAgg15⟩
theorem ty16 : Ty Tryz.prog 16 1 false := ⟨Tryz.sizeOf16, Tryz.isAgg16⟩
theorem ty17 : Ty Tryz.prog 17 1 false := ⟨Tryz.sizeOf17, Tryz.isAgg17⟩
theorem ty18 : Ty Tryz.prog 18 1 true := ⟨Tryz.sizeOf18, Tryz.isAgg18⟩
theorem ty19 : Ty Tryz.prog 19 1 true := ⟨Tryz.sizeOf19, Tryz.isAgg19⟩
theorem ty20 : Ty Tryz.prog 20 1 false := ⟨Tryz.sizeOf20, Tryz.isAgg20⟩
theorem ty21 : Ty Tryz.prog 21 1 false := ⟨Tryz.sizeOf21, Tryz.isAgg21⟩
theorem ty22 : Ty Tryz.prog 22 1 false := ⟨Tryz.sizeOf22, Tryz.isAgg22⟩
theorem ty23 : Ty Tryz.prog 23 1 false := ⟨Tryz.sizeOf23, Tryz.isAgg23⟩
theorem ty24 : Ty Tryz.prog 24 1 false := ⟨Tryz.sizeOf24, Tryz.isAgg24⟩
theorem ty26 : Ty Tryz.prog 26 1 false := ⟨Tryz.sizeOf26, Tryz.isAgg26⟩
theorem ty27 : Ty Tryz.prog 27 1 false := ⟨Tryz.sizeOf27, Tryz.isAgg27⟩
theorem ty28 : Ty Tryz.prog 28 1 false := ⟨Tryz.sizeOf28, Tryz.isAgg28⟩
theorem ty29 : Ty Tryz.prog 29 1 false := ⟨Tryz.sizeOf29, Tryz.isAgg29⟩
theorem ty31 : Ty Tryz.prog 31 1 false := ⟨Tryz.sizeOf31, Tryz.isAgg31⟩
theorem ty32 : Ty Tryz.prog 32 5 true := ⟨Tryz.sizeOf32, Tryz.isAgg32⟩
theorem ty33 : Ty Tryz.prog 33 5 true := ⟨Tryz.sizeOf33, Tryz.isAgg33⟩
theorem ty34 : Ty Tryz.prog 34 11 true := ⟨Tryz.sizeOf34, Tryz.isAgg34⟩
theorem ty35 : Ty Tryz.prog 35 11 true := ⟨Tryz.sizeOf35, Tryz.isAgg35⟩
theorem ty37 : Ty Tryz.prog 37 1 false := ⟨Tryz.sizeOf37, Tryz.isAgg37⟩
theorem ty38 : Ty Tryz.prog 38 1 false := ⟨Tryz.sizeOf38, Tryz.isAgg38⟩
theorem ty39 : Ty Tryz.prog 39 1 true := ⟨Tryz.sizeOf39, Tryz.isAgg39⟩
theorem ty40 : Ty Tryz.prog 40 1 true := ⟨Tryz.sizeOf40, Tryz.isAgg40⟩
theorem ty42 : Ty Tryz.prog 42 1 false := ⟨Tryz.sizeOf42, Tryz.isAgg42⟩
theorem ty43 : Ty Tryz.prog 43 1 false := ⟨Tryz.sizeOf43, Tryz.isAgg43⟩
theorem ty44 : Ty Tryz.prog 44 2 true := ⟨Tryz.sizeOf44, Tryz.isAgg44⟩
theorem ty45 : Ty Tryz.prog 45 2 true := ⟨Tryz.sizeOf45, Tryz.isAgg45⟩
theorem ty46 : Ty Tryz.prog 46 1 false := ⟨Tryz.sizeOf46, Tryz.isAgg46⟩
theorem ty47 : Ty Tryz.prog 47 1 false := ⟨Tryz.sizeOf47, Tryz.isAgg47⟩
theorem ty48 : Ty Tryz.prog 48 1 false := ⟨Tryz.sizeOf48, Tryz.isAgg48⟩
theorem ty49 : Ty Tryz.prog 49 1 false := ⟨Tryz.sizeOf49, Tryz.isAgg49⟩
theorem ty50 : Ty Tryz.prog 50 3 true := ⟨Tryz.sizeOf50, Tryz.isAgg50⟩
theorem ty51 : Ty Tryz.prog 51 3 true := ⟨Tryz.sizeOf51, Tryz.isAgg51⟩
theorem ty52 : Ty Tryz.prog 52 1 false := ⟨Tryz.sizeOf52, Tryz.isAgg52⟩
theorem ty53 : Ty Tryz.prog 53 1 false := ⟨Tryz.sizeOf53, Tryz.isAgg53⟩
theorem ty54 : Ty Tryz.prog 54 1 false := ⟨Tryz.sizeOf54, Tryz.isAgg54⟩
theorem ty55 : Ty Tryz.prog 55 1 false := ⟨Tryz.sizeOf55, Tryz.isAgg55⟩
theorem ty56 : Ty Tryz.prog 56 1 false := ⟨Tryz.sizeOf56, Tryz.isAgg56⟩
theorem ty57 : Ty Tryz.prog 57 1 false := ⟨Tryz.sizeOf57, Tryz.isAgg57⟩
theorem ty58 : Ty Tryz.prog 58 1 false := ⟨Tryz.sizeOf58, Tryz.isAgg58⟩
theorem ty59 : Ty Tryz.prog 59 6 true := ⟨Tryz.sizeOf59, Tryz.isAgg59⟩
theorem ty60 : Ty Tryz.prog 60 6 true := ⟨Tryz.sizeOf60, Tryz.isAgg60⟩
theorem ty61 : Ty Tryz.prog 61 1 false := ⟨Tryz.sizeOf61, Tryz.isAgg61⟩
theorem ty62 : Ty Tryz.prog 62 1 false := ⟨Tryz.sizeOf62, Tryz.isAgg62⟩
theorem ty63 : Ty Tryz.prog 63 3 true := ⟨Tryz.sizeOf63, Tryz.isAgg63⟩
theorem ty64 : Ty Tryz.prog 64 3 true := ⟨Tryz.sizeOf64, Tryz.isAgg64⟩
theorem ty65 : Ty Tryz.prog 65 1 false := ⟨Tryz.sizeOf65, Tryz.isAgg65⟩
theorem ty66 : Ty Tryz.prog 66 2 true := ⟨Tryz.sizeOf66, Tryz.isAgg66⟩
theorem ty67 : Ty Tryz.prog 67 2 true := ⟨Tryz.sizeOf67, Tryz.isAgg67⟩
theorem ty68 : Ty Tryz.prog 68 1 false := ⟨Tryz.sizeOf68, Tryz.isAgg68⟩
theorem ty69 : Ty Tryz.prog 69 1 false := ⟨Tryz.sizeOf69, Tryz.isAgg69⟩
theorem ty70 : Ty Tryz.prog 70 1 false := ⟨Tryz.sizeOf70, Tryz.isAgg70⟩
theorem ty71 : Ty Tryz.prog 71 5 true := ⟨Tryz.sizeOf71, Tryz.isAgg71⟩
theorem ty72 : Ty Tryz.prog 72 5 true := ⟨Tryz.sizeOf72, Tryz.isAgg72⟩
theorem ty73 : Ty Tryz.prog 73 1 false := ⟨Tryz.sizeOf73, Tryz.isAgg73⟩
theorem ty74 : Ty Tryz.prog 74 1 false := ⟨Tryz.sizeOf74, Tryz.isAgg74⟩
theorem ty75 : Ty Tryz.prog 75 1 false := ⟨Tryz.sizeOf75, Tryz.isAgg75⟩
theorem ty76 : Ty Tryz.prog 76 1 false := ⟨Tryz.sizeOf76, Tryz.isAgg76⟩
theorem ty77 : Ty Tryz.prog 77 1 false := ⟨Tryz.sizeOf77, Tryz.isAgg77⟩
theorem ty78 : Ty Tryz.prog 78 1 false := ⟨Tryz.sizeOf78, Tryz.isAgg78⟩
theorem ty79 : Ty Tryz.prog 79 1 false := ⟨Tryz.sizeOf79, Tryz.isAgg79⟩
theorem ty80 : Ty Tryz.prog 80 1 false := ⟨Tryz.sizeOf80, Tryz.isAgg80⟩
theorem ty81 : Ty Tryz.prog 81 1 false := ⟨Tryz.sizeOf81, Tryz.isAgg81⟩
theorem ty82 : Ty Tryz.prog 82 2 true := ⟨Tryz.sizeOf82, Tryz.isAgg82⟩
theorem ty83 : Ty Tryz.prog 83 2 true := ⟨Tryz.sizeOf83, Tryz.isAgg83⟩
theorem ty84 : Ty Tryz.prog 84 1 false := ⟨Tryz.sizeOf84, Tryz.isAgg84⟩
theorem ty85 : Ty Tryz.prog 85 1 false := ⟨Tryz.sizeOf85, Tryz.isAgg85⟩
theorem ty87 : Ty Tryz.prog 87 1 false := ⟨Tryz.sizeOf87, Tryz.isAgg87⟩
theorem ty88 : Ty Tryz.prog 88 1 false := ⟨Tryz.sizeOf88, Tryz.isAgg88⟩
theorem ty89 : Ty Tryz.prog 89 1 false := ⟨Tryz.sizeOf89, Tryz.isAgg89⟩
theorem ty91 : Ty Tryz.prog 91 1 false := ⟨Tryz.sizeOf91, Tryz.isAgg91⟩
theorem ty92 : Ty Tryz.prog 92 1 false := ⟨Tryz.sizeOf92, Tryz.isAgg92⟩
theorem ty93 : Ty Tryz.prog 93 1 false := ⟨Tryz.sizeOf93, Tryz.isAgg93⟩
theorem ty94 : Ty Tryz.prog 94 1 false := ⟨Tryz.sizeOf94, Tryz.isAgg94⟩
theorem ty95 : Ty Tryz.prog 95 2 true := ⟨Tryz.sizeOf95, Tryz.isAgg95⟩
theorem ty96 : Ty Tryz.prog 96 2 true := ⟨Tryz.sizeOf96, Tryz.isAgg96⟩
theorem ty97 : Ty Tryz.prog 97 1 false := ⟨Tryz.sizeOf97, Tryz.isAgg97⟩
theorem ty98 : Ty Tryz.prog 98 1 false := ⟨Tryz.sizeOf98, Tryz.isAgg98⟩
theorem ty99 : Ty Tryz.prog 99 1 false := ⟨Tryz.sizeOf99, Tryz.isAgg99⟩
theorem ty100 : Ty Tryz.prog 100 1 false := ⟨Tryz.sizeOf100, Tryz.isAgg100⟩
theorem ty101 : Ty Tryz.prog 101 7 true := ⟨Tryz.sizeOf101, Tryz.isAgg101⟩
theorem ty102 : Ty Tryz.prog 102 7 true := ⟨Tryz.sizeOf102, Tryz.isAgg102⟩
theorem ty103 : Ty Tryz.prog 103 1 false := ⟨Tryz.sizeOf103, Tryz.isAgg103⟩
theorem ty104 : Ty Tryz.prog 104 1 false := ⟨Tryz.sizeOf104, Tryz.isAgg104⟩
theorem ty105 : Ty Tryz.prog 105 1 false := ⟨Tryz.sizeOf105, Tryz.isAgg105⟩
theorem ty106 : Ty Tryz.prog 106 1 false := ⟨Tryz.sizeOf106, Tryz.isAgg106⟩
theorem ty107 : Ty Tryz.prog 107 1 false := ⟨Tryz.sizeOf107, Tryz.isAgg107⟩
theorem ty109 : Ty Tryz.prog 109 1 false := ⟨Tryz.sizeOf109, Tryz.isAgg109⟩
theorem ty110 : Ty Tryz.prog 110 1 false := ⟨Tryz.sizeOf110, Tryz.isAgg110⟩
theorem ty111 : Ty Tryz.prog 111 1 false := ⟨Tryz.sizeOf111, Tryz.isAgg111⟩
theorem ty112 : Ty Tryz.prog 112 1 false := ⟨Tryz.sizeOf112, Tryz.isAgg112⟩
theorem ty113 : Ty Tryz.prog 113 1 false := ⟨Tryz.sizeOf113, Tryz.isAgg113⟩
theorem ty114 : Ty Tryz.prog 114 1 false := ⟨Tryz.sizeOf114, Tryz.isAgg114⟩
theorem ty115 : Ty Tryz.prog 115 1 false := ⟨Tryz.sizeOf115, Tryz.isAgg115⟩
theorem ty116 : Ty Tryz.prog 116 1 false := ⟨Tryz.sizeOf116, Tryz.isAgg116⟩
theorem ty117 : Ty Tryz.prog 117 1 false := ⟨Tryz.sizeOf117, Tryz.isAgg117⟩
theorem ty118 : Ty Tryz.prog 118 1 false := ⟨Tryz.sizeOf118, Tryz.isAgg118⟩
theorem ty120 : Ty Tryz.prog 120 1 false := ⟨Tryz.sizeOf120, Tryz.isAgg120⟩
theorem ty121 : Ty Tryz.prog 121 1 false := ⟨Tryz.sizeOf121, Tryz.isAgg121⟩
theorem ty122 : Ty Tryz.prog 122 1 false := ⟨Tryz.sizeOf122, Tryz.isAgg122⟩
theorem ty123 : Ty Tryz.prog 123 1 false := ⟨Tryz.sizeOf123, Tryz.isAgg123⟩
theorem ty124 : Ty Tryz.prog 124 1 false := ⟨Tryz.sizeOf124, Tryz.isAgg124⟩
theorem ty125 : Ty Tryz.prog 125 6 true := ⟨Tryz.sizeOf125, Tryz.isAgg125⟩
theorem ty126 : Ty Tryz.prog 126 6 true := ⟨Tryz.sizeOf126, Tryz.isAgg126⟩
theorem ty127 : Ty Tryz.prog 127 1 false := ⟨Tryz.sizeOf127, Tryz.isAgg127⟩
theorem ty128 : Ty Tryz.prog 128 3 true := ⟨Tryz.sizeOf128, Tryz.isAgg128⟩
theorem ty129 : Ty Tryz.prog 129 5 true := ⟨Tryz.sizeOf129, Tryz.isAgg129⟩
theorem ty130 : Ty Tryz.prog 130 5 true := ⟨Tryz.sizeOf130, Tryz.isAgg130⟩
theorem ty131 : Ty Tryz.prog 131 1 false := ⟨Tryz.sizeOf131, Tryz.isAgg131⟩
theorem ty132 : Ty Tryz.prog 132 1 false := ⟨Tryz.sizeOf132, Tryz.isAgg132⟩
theorem ty133 : Ty Tryz.prog 133 1 false := ⟨Tryz.sizeOf133, Tryz.isAgg133⟩
theorem ty134 : Ty Tryz.prog 134 1 false := ⟨Tryz.sizeOf134, Tryz.isAgg134⟩
theorem ty135 : Ty Tryz.prog 135 1 false := ⟨Tryz.sizeOf135, Tryz.isAgg135⟩
theorem ty136 : Ty Tryz.prog 136 1 false := ⟨Tryz.sizeOf136, Tryz.isAgg136⟩
theorem ty137 : Ty Tryz.prog 137 1 false := ⟨Tryz.sizeOf137, Tryz.isAgg137⟩
theorem ty138 : Ty Tryz.prog 138 1 false := ⟨Tryz.sizeOf138, Tryz.isAgg138⟩
theorem ty139 : Ty Tryz.prog 139 1 false := ⟨Tryz.sizeOf139, Tryz.isAgg139⟩
theorem ty141 : Ty Tryz.prog 141 1 false := ⟨Tryz.sizeOf141, Tryz.isAgg141⟩
theorem ty142 : Ty Tryz.prog 142 1 false := ⟨Tryz.sizeOf142, Tryz.isAgg142⟩
theorem ty143 : Ty Tryz.prog 143 1 false := ⟨Tryz.sizeOf143, Tryz.isAgg143⟩
theorem ty144 : Ty Tryz.prog 144 1 false := ⟨Tryz.sizeOf144, Tryz.isAgg144⟩
theorem ty145 : Ty Tryz.prog 145 1 false := ⟨Tryz.sizeOf145, Tryz.isAgg145⟩
theorem ty146 : Ty Tryz.prog 146 1 false := ⟨Tryz.sizeOf146, Tryz.isAgg146⟩
theorem ty147 : Ty Tryz.prog 147 7 true := ⟨Tryz.sizeOf147, Tryz.isAgg147⟩
theorem ty148 : Ty Tryz.prog 148 7 true := ⟨Tryz.sizeOf148, Tryz.isAgg148⟩
theorem ty149 : Ty Tryz.prog 149 1 false := ⟨Tryz.sizeOf149, Tryz.isAgg149⟩
theorem ty151 : Ty Tryz.prog 151 1 false := ⟨Tryz.sizeOf151, Tryz.isAgg151⟩
theorem ty152 : Ty Tryz.prog 152 1 false := ⟨Tryz.sizeOf152, Tryz.isAgg152⟩
theorem ty153 : Ty Tryz.prog 153 1 false := ⟨Tryz.sizeOf153, Tryz.isAgg153⟩
theorem ty154 : Ty Tryz.prog 154 1 false := ⟨Tryz.sizeOf154, Tryz.isAgg154⟩
theorem ty155 : Ty Tryz.prog 155 1 false := ⟨Tryz.sizeOf155, Tryz.isAgg155⟩
theorem ty156 : Ty Tryz.prog 156 1 false := ⟨Tryz.sizeOf156, Tryz.isAgg156⟩
theorem ty157 : Ty Tryz.prog 157 1 false := ⟨Tryz.sizeOf157, Tryz.isAgg157⟩
theorem ty159 : Ty Tryz.prog 159 1 false := ⟨Tryz.sizeOf159, Tryz.isAgg159⟩
theorem ty160 : Ty Tryz.prog 160 1 true := ⟨Tryz.sizeOf160, Tryz.isAgg160⟩
theorem ty161 : Ty Tryz.prog 161 1 true := ⟨Tryz.sizeOf161, Tryz.isAgg161⟩
theorem ty163 : Ty Tryz.prog 163 1 false := ⟨Tryz.sizeOf163, Tryz.isAgg163⟩
theorem ty164 : Ty Tryz.prog 164 1 false := ⟨Tryz.sizeOf164, Tryz.isAgg164⟩
theorem ty165 : Ty Tryz.prog 165 1 false := ⟨Tryz.sizeOf165, Tryz.isAgg165⟩
theorem ty166 : Ty Tryz.prog 166 1 false := ⟨Tryz.sizeOf166, Tryz.isAgg166⟩
theorem ty168 : Ty Tryz.prog 168 1 false := ⟨Tryz.sizeOf168, Tryz.isAgg168⟩
theorem ty170 : Ty Tryz.prog 170 1 false := ⟨Tryz.sizeOf170, Tryz.isAgg170⟩
theorem ty171 : Ty Tryz.prog 171 1 false := ⟨Tryz.sizeOf171, Tryz.isAgg171⟩
theorem ty172 : Ty Tryz.prog 172 1 false := ⟨Tryz.sizeOf172, Tryz.isAgg172⟩
theorem ty173 : Ty Tryz.prog 173 4 true := ⟨Tryz.sizeOf173, Tryz.isAgg173⟩
theorem ty174 : Ty Tryz.prog 174 4 true := ⟨Tryz.sizeOf174, Tryz.isAgg174⟩
theorem ty175 : Ty Tryz.prog 175 1 false := ⟨Tryz.sizeOf175, Tryz.isAgg175⟩
theorem ty176 : Ty Tryz.prog 176 1 false := ⟨Tryz.sizeOf176, Tryz.isAgg176⟩
theorem ty177 : Ty Tryz.prog 177 1 false := ⟨Tryz.sizeOf177, Tryz.isAgg177⟩
theorem ty178 : Ty Tryz.prog 178 1 false := ⟨Tryz.sizeOf178, Tryz.isAgg178⟩
theorem ty179 : Ty Tryz.prog 179 1 false := ⟨Tryz.sizeOf179, Tryz.isAgg179⟩
theorem ty180 : Ty Tryz.prog 180 1 false := ⟨Tryz.sizeOf180, Tryz.isAgg180⟩
theorem ty181 : Ty Tryz.prog 181 1 false := ⟨Tryz.sizeOf181, Tryz.isAgg181⟩
theorem ty182 : Ty Tryz.prog 182 1 false := ⟨Tryz.sizeOf182, Tryz.isAgg182⟩
theorem ty183 : Ty Tryz.prog 183 1 false := ⟨Tryz.sizeOf183, Tryz.isAgg183⟩
theorem ty184 : Ty Tryz.prog 184 1 false := ⟨Tryz.sizeOf184, Tryz.isAgg184⟩
theorem ty185 : Ty Tryz.prog 185 1 false := ⟨Tryz.sizeOf185, Tryz.isAgg185⟩
theorem ty186 : Ty Tryz.prog 186 1 false := ⟨Tryz.sizeOf186, Tryz.isAgg186⟩
theorem ty187 : Ty Tryz.prog 187 1 false := ⟨Tryz.sizeOf187, Tryz.isAgg187⟩
theorem ty188 : Ty Tryz.prog 188 1 false := ⟨Tryz.sizeOf188, Tryz.isAgg188⟩
theorem ty189 : Ty Tryz.prog 189 1 false := ⟨Tryz.sizeOf189, Tryz.isAgg189⟩
theorem ty190 : Ty Tryz.prog 190 1 false := ⟨Tryz.sizeOf190, Tryz.isAgg190⟩
theorem ty191 : Ty Tryz.prog 191 1 false := ⟨Tryz.sizeOf191, Tryz.isAgg191⟩
theorem ty192 : Ty Tryz.prog 192 1 false := ⟨Tryz.sizeOf192, Tryz.isAgg192⟩
theorem ty194 : Ty Tryz.prog 194 1 false := ⟨Tryz.sizeOf194, Tryz.isAgg194⟩
theorem ty195 : Ty Tryz.prog 195 1 false := ⟨Tryz.sizeOf195, Tryz.isAgg195⟩
theorem ty196 : Ty Tryz.prog 196 1 false := ⟨Tryz.sizeOf196, Tryz.isAgg196⟩
theorem ty197 : Ty Tryz.prog 197 1 false := ⟨Tryz.sizeOf197, Tryz.isAgg197⟩
theorem ty198 : Ty Tryz.prog 198 1 false := ⟨Tryz.sizeOf198, Tryz.isAgg198⟩
theorem ty199 : Ty Tryz.prog 199 1 false := ⟨Tryz.sizeOf199, Tryz.isAgg199⟩
theorem ty200 : Ty Tryz.prog 200 1 false := ⟨Tryz.sizeOf200, Tryz.isAgg200⟩
theorem ty201 : Ty Tryz.prog 201 1 false := ⟨Tryz.sizeOf201, Tryz.isAgg201⟩
theorem ty202 : Ty Tryz.prog 202 1 false := ⟨Tryz.sizeOf202, Tryz.isAgg202⟩
theorem ty203 : Ty Tryz.prog 203 1 false := ⟨Tryz.sizeOf203, Tryz.isAgg203⟩
theorem ty204 : Ty Tryz.prog 204 1 false := ⟨Tryz.sizeOf204, Tryz.isAgg204⟩
theorem ty205 : Ty Tryz.prog 205 1 false := ⟨Tryz.sizeOf205, Tryz.isAgg205⟩
theorem ty206 : Ty Tryz.prog 206 1 false := ⟨Tryz.sizeOf206, Tryz.isAgg206⟩
theorem ty207 : Ty Tryz.prog 207 1 false := ⟨Tryz.sizeOf207, Tryz.isAgg207⟩
theorem ty208 : Ty Tryz.prog 208 1 false := ⟨Tryz.sizeOf208, Tryz.isAgg208⟩
theorem ty209 : Ty Tryz.prog 209 1 false := ⟨Tryz.sizeOf209, Tryz.isAgg209⟩
theorem ty210 : Ty Tryz.prog 210 1 false := ⟨Tryz.sizeOf210, Tryz.isAgg210⟩
theorem ty211 : Ty Tryz.prog 211 1 false := ⟨Tryz.sizeOf211, Tryz.isAgg211⟩
theorem ty212 : Ty Tryz.prog 212 256 true := ⟨Tryz.sizeOf212, Tryz.isAgg212⟩
theorem ty213 : Ty Tryz.prog 213 1 false := ⟨Tryz.sizeOf213, Tryz.isAgg213⟩
theorem ty214 : Ty Tryz.prog 214 1 false := ⟨Tryz.sizeOf214, Tryz.isAgg214⟩
theorem ty215 : Ty Tryz.prog 215 1 false := ⟨Tryz.sizeOf215, Tryz.isAgg215⟩
theorem ty216 : Ty Tryz.prog 216 1 false := ⟨Tryz.sizeOf216, Tryz.isAgg216⟩
theorem ty217 : Ty Tryz.prog 217 1 false := ⟨Tryz.sizeOf217, Tryz.isAgg217⟩
theorem ty218 : Ty Tryz.prog 218 2 true := ⟨Tryz.sizeOf218, Tryz.isAgg218⟩
theorem ty219 : Ty Tryz.prog 219 2 true := ⟨Tryz.sizeOf219, Tryz.isAgg219⟩
theorem ty220 : Ty Tryz.prog 220 1 false := ⟨Tryz.sizeOf220, Tryz.isAgg220⟩
theorem ty221 : Ty Tryz.prog 221 1 false := ⟨Tryz.sizeOf221, Tryz.isAgg221⟩
theorem ty222 : Ty Tryz.prog 222 1 false := ⟨Tryz.sizeOf222, Tryz.isAgg222⟩
theorem ty223 : Ty Tryz.prog 223 1 false := ⟨Tryz.sizeOf223, Tryz.isAgg223⟩
theorem ty224 : Ty Tryz.prog 224 3 true := ⟨Tryz.sizeOf224, Tryz.isAgg224⟩
theorem ty225 : Ty Tryz.prog 225 3 true := ⟨Tryz.sizeOf225, Tryz.isAgg225⟩
theorem ty226 : Ty Tryz.prog 226 1 false := ⟨Tryz.sizeOf226, Tryz.isAgg226⟩
theorem ty227 : Ty Tryz.prog 227 3 true := ⟨Tryz.sizeOf227, Tryz.isAgg227⟩
theorem ty228 : Ty Tryz.prog 228 3 true := ⟨Tryz.sizeOf228, Tryz.isAgg228⟩
theorem ty229 : Ty Tryz.prog 229 1 false := ⟨Tryz.sizeOf229, Tryz.isAgg229⟩
theorem ty230 : Ty Tryz.prog 230 3 true := ⟨Tryz.sizeOf230, Tryz.isAgg230⟩
theorem ty231 : Ty Tryz.prog 231 3 true := ⟨Tryz.sizeOf231, Tryz.isAgg231⟩
theorem ty232 : Ty Tryz.prog 232 1 false := ⟨Tryz.sizeOf232, Tryz.isAgg232⟩
theorem ty233 : Ty Tryz.prog 233 1 false := ⟨Tryz.sizeOf233, Tryz.isAgg233⟩
theorem ty234 : Ty Tryz.prog 234 1 false := ⟨Tryz.sizeOf234, Tryz.isAgg234⟩
theorem ty235 : Ty Tryz.prog 235 4 true := ⟨Tryz.sizeOf235, Tryz.isAgg235⟩
theorem ty236 : Ty Tryz.prog 236 4 true := ⟨Tryz.sizeOf236, Tryz.isAgg236⟩
theorem ty237 : Ty Tryz.prog 237 0 true := ⟨Tryz.sizeOf237, Tryz.isAgg237⟩
theorem ty238 : Ty Tryz.prog 238 0 true := ⟨Tryz.sizeOf238, Tryz.isAgg238⟩
theorem ty239 : Ty Tryz.prog 239 0 true := ⟨Tryz.sizeOf239, Tryz.isAgg239⟩
theorem ty240 : Ty Tryz.prog 240 1 false := ⟨Tryz.sizeOf240, Tryz.isAgg240⟩
theorem ty241 : Ty Tryz.prog 241 1 false := ⟨Tryz.sizeOf241, Tryz.isAgg241⟩
theorem ty242 : Ty Tryz.prog 242 1 false := ⟨Tryz.sizeOf242, Tryz.isAgg242⟩
theorem ty243 : Ty Tryz.prog 243 1 false := ⟨Tryz.sizeOf243, Tryz.isAgg243⟩
theorem ty244 : Ty Tryz.prog 244 1 false := ⟨Tryz.sizeOf244, Tryz.isAgg244⟩
theorem ty245 : Ty Tryz.prog 245 11 true := ⟨Tryz.sizeOf245, Tryz.isAgg245⟩
theorem ty246 : Ty Tryz.prog 246 11 true := ⟨Tryz.sizeOf246, Tryz.isAgg246⟩
theorem fa33_0 : FA Tryz.prog 33 0 0 := FA.mk2 Tryz.underlying33 rfl rfl rfl ty3
theorem fa33_1 : FA Tryz.prog 33 1 1 := FA.mk2 Tryz.underlying33 rfl rfl rfl ty3
theorem fa33_2 : FA Tryz.prog 33 2 2 := FA.mk2 Tryz.underlying33 rfl rfl rfl ty3
theorem fa33_3 : FA Tryz.prog 33 3 3 := FA.mk2 Tryz.underlying33 rfl rfl rfl ty3
theorem fa33_4 : FA Tryz.prog 33 4 4 := FA.mk2 Tryz.underlying33 rfl rfl rfl ty9
theorem fa35_0 : FA Tryz.prog 35 0 0 := FA.mk2 Tryz.underlying35 rfl rfl rfl ty3
theorem fa35_1 : FA Tryz.prog 35 1 1 := FA.mk2 Tryz.underlying35 rfl rfl rfl ty3
theorem fa35_2 : FA Tryz.prog 35 2 2 := FA.mk2 Tryz.underlying35 rfl rfl rfl ty3
theorem fa35_3 : FA Tryz.prog 35 3 3 := FA.mk2 Tryz.underlying35 rfl rfl rfl ty9
theorem fa35_4 : FA Tryz.prog 35 4 4 := FA.mk2 Tryz.underlying35 rfl rfl rfl ty9
theorem fa35_5 : FA Tryz.prog 35 5 5 := FA.mk2 Tryz.underlying35 rfl rfl rfl ty22
theorem fa35_6 : FA Tryz.prog 35 6 6 := FA.mk2 Tryz.underlying35 rfl rfl rfl ty33
theorem fa40_0 : FA Tryz.prog 40 0 0 := FA.mk2 Tryz.underlying40 rfl rfl rfl ty38
theorem fa45_0 : FA Tryz.prog 45 0 0 := FA.mk2 Tryz.underlying45 rfl rfl rfl ty9
theorem fa45_1 : FA Tryz.prog 45 1 1 := FA.mk2 Tryz.underlying45 rfl rfl rfl ty9
theorem fa51_0 : FA Tryz.prog 51 0 0 := FA.mk2 Tryz.underlying51 rfl rfl rfl ty3
theorem fa51_1 : FA Tryz.prog 51 1 1 := FA.mk2 Tryz.underlying51 rfl rfl rfl ty3
theorem fa51_2 : FA Tryz.prog 51 2 2 := FA.mk2 Tryz.underlying51 rfl rfl rfl ty9
theorem fa60_2 : FA Tryz.prog 60 2 2 := FA.mk2 Tryz.underlying60 rfl rfl rfl ty24
theorem fa60_4 : FA Tryz.prog 60 4 4 := FA.mk2 Tryz.underlying60 rfl rfl rfl ty58
theorem fa60_5 : FA Tryz.prog 60 5 5 := FA.mk2 Tryz.underlying60 rfl rfl rfl ty9
theorem fa64_0 : FA Tryz.prog 64 0 0 := FA.mk2 Tryz.underlying64 rfl rfl rfl ty3
theorem fa64_1 : FA Tryz.prog 64 1 1 := FA.mk2 Tryz.underlying64 rfl rfl rfl ty3
theorem fa64_2 : FA Tryz.prog 64 2 2 := FA.mk2 Tryz.underlying64 rfl rfl rfl ty3
theorem fa67_0 : FA Tryz.prog 67 0 0 := FA.mk2 Tryz.underlying67 rfl rfl rfl ty58
theorem fa67_1 : FA Tryz.prog 67 1 1 := FA.mk2 Tryz.underlying67 rfl rfl rfl ty9
theorem fa72_0 : FA Tryz.prog 72 0 0 := FA.mk2 Tryz.underlying72 rfl rfl rfl ty46
theorem fa72_1 : FA Tryz.prog 72 1 1 := FA.mk2 Tryz.underlying72 rfl rfl rfl ty58
theorem fa72_2 : FA Tryz.prog 72 2 2 := FA.mk2 Tryz.underlying72 rfl rfl rfl ty70
theorem fa72_3 : FA Tryz.prog 72 3 3 := FA.mk2 Tryz.underlying72 rfl rfl rfl ty3
theorem fa72_4 : FA Tryz.prog 72 4 4 := FA.mk2 Tryz.underlying72 rfl rfl rfl ty61
theorem fa83_0 : FA Tryz.prog 83 0 0 := FA.mk2 Tryz.underlying83 rfl rfl rfl ty80
theorem fa83_1 : FA Tryz.prog 83 1 1 := FA.mk2 Tryz.underlying83 rfl rfl rfl ty81
theorem fa96_0 : FA Tryz.prog 96 0 0 := FA.mk2 Tryz.underlying96 rfl rfl rfl ty5
theorem fa96_1 : FA Tryz.prog 96 1 1 := FA.mk2 Tryz.underlying96 rfl rfl rfl ty3
theorem fa102_0 : FA Tryz.prog 102 0 0 := FA.mk2 Tryz.underlying102 rfl rfl rfl ty69
theorem fa102_1 : FA Tryz.prog 102 1 1 := FA.mk2 Tryz.underlying102 rfl rfl rfl ty97
theorem fa102_2 : FA Tryz.prog 102 2 2 := FA.mk2 Tryz.underlying102 rfl rfl rfl ty99
theorem fa102_3 : FA Tryz.prog 102 3 3 := FA.mk2 Tryz.underlying102 rfl rfl rfl ty100
theorem fa102_4 : FA Tryz.prog 102 4 4 := FA.mk2 Tryz.underlying102 rfl rfl rfl ty23
theorem fa102_5 : FA Tryz.prog 102 5 5 := FA.mk2 Tryz.underlying102 rfl rfl rfl ty3
theorem fa102_6 : FA Tryz.prog 102 6 6 := FA.mk2 Tryz.underlying102 rfl rfl rfl ty3
theorem fa126_0 : FA Tryz.prog 126 0 0 := FA.mk2 Tryz.underlying126 rfl rfl rfl ty38
theorem fa126_1 : FA Tryz.prog 126 1 1 := FA.mk2 Tryz.underlying126 rfl rfl rfl ty38
theorem fa126_2 : FA Tryz.prog 126 2 2 := FA.mk2 Tryz.underlying126 rfl rfl rfl ty9
theorem fa126_3 : FA Tryz.prog 126 3 3 := FA.mk2 Tryz.underlying126 rfl rfl rfl ty3
theorem fa126_4 : FA Tryz.prog 126 4 4 := FA.mk2 Tryz.underlying126 rfl rfl rfl ty3
theorem fa126_5 : FA Tryz.prog 126 5 5 := FA.mk2 Tryz.underlying126 rfl rfl rfl ty3
theorem fa130_0 : FA Tryz.prog 130 0 0 := FA.mk2 Tryz.underlying130 rfl rfl rfl ty3
theorem fa130_1 : FA Tryz.prog 130 1 1 := FA.mk2 Tryz.underlying130 rfl rfl rfl ty128
theorem fa130_2 : FA Tryz.prog 130 2 4 := FA.mk2 Tryz.underlying130 rfl rfl rfl ty127
theorem fa148_0 : FA Tryz.prog 148 0 0 := FA.mk2 Tryz.underlying148 rfl rfl rfl ty67
theorem fa148_1 : FA Tryz.prog 148 1 2 := FA.mk2 Tryz.underlying148 rfl rfl rfl ty3
theorem fa148_2 : FA Tryz.prog 148 2 3 := FA.mk2 Tryz.underlying148 rfl rfl rfl ty3
theorem fa148_3 : FA Tryz.prog 148 3 4 := FA.mk2 Tryz.underlying148 rfl rfl rfl ty3
theorem fa148_4 : FA Tryz.prog 148 4 5 := FA.mk2 Tryz.underlying148 rfl rfl rfl ty121
theorem fa148_5 : FA Tryz.prog 148 5 6 := FA.mk2 Tryz.underlying148 rfl rfl rfl ty3
theorem fa161_0 : FA Tryz.prog 161 0 0 := FA.mk2 Tryz.underlying161 rfl rfl rfl ty24
theorem fa174_0 : FA Tryz.prog 174 0 0 := FA.mk2 Tryz.underlying174 rfl rfl rfl ty67
theorem fa174_1 : FA Tryz.prog 174 1 2 := FA.mk2 Tryz.underlying174 rfl rfl rfl ty3
theorem fa174_2 : FA Tryz.prog 174 2 3 := FA.mk2 Tryz.underlying174 rfl rfl rfl ty3
theorem fa219_0 : FA Tryz.prog 219 0 0 := FA.mk2 Tryz.underlying219 rfl rfl rfl ty3
theorem fa219_1 : FA Tryz.prog 219 1 1 := FA.mk2 Tryz.underlying219 rfl rfl rfl ty3
theorem fa225_0 : FA Tryz.prog 225 0 0 := FA.mk2 Tryz.underlying225 rfl rfl rfl ty222
theorem fa225_1 : FA Tryz.prog 225 1 1 := FA.mk2 Tryz.underlying225 rfl rfl rfl ty223
theorem fa225_2 : FA Tryz.prog 225 2 2 := FA.mk2 Tryz.underlying225 rfl rfl rfl ty3
theorem fa228_0 : FA Tryz.prog 228 0 0 := FA.mk2 Tryz.underlying228 rfl rfl rfl ty226
theorem fa228_1 : FA Tryz.prog 228 1 1 := FA.mk2 Tryz.underlying228 rfl rfl rfl ty226
theorem fa228_2 : FA Tryz.prog 228 2 2 := FA.mk2 Tryz.underlying228 rfl rfl rfl ty226
theorem fa231_0 : FA Tryz.prog 231 0 0 := FA.mk2 Tryz.underlying231 rfl rfl rfl ty199
theorem fa231_1 : FA Tryz.prog 231 1 1 := FA.mk2 Tryz.underlying231 rfl rfl rfl ty199
theorem fa231_2 : FA Tryz.prog 231 2 2 := FA.mk2 Tryz.underlying231 rfl rfl rfl ty199
theorem pt38 : Tryz.prog.underlying 38 = some (.pointer (Tryz.prog.pointee 38)) := by kernel_rfl
theorem pt61 : Tryz.prog.underlying 61 = some (.pointer (Tryz.prog.pointee 61)) := by kernel_rfl
theorem pt80 : Tryz.prog.underlying 80 = some (.pointer (Tryz.prog.pointee 80)) := by kernel_rfl
theorem pt146 : Tryz.prog.underlying 146 = some (.pointer (Tryz.prog.pointee 146)) := by kernel_rfl
theorem bd33_2_3 (x1 : Int) (x2 : Int) (w : World) : (Instr.build 33 [(2, .int .i64 x1), (3, .int .i64 x2)].toArray).run Tryz.prog w = .ok (.agg #[.int .i64 0, .int .i64 0, .int .i64 x1, .int .i64 x2, .string ⟨#[]⟩]) w := by kernel_rfl
theorem bd35_0_3_2_5 (x1 : Int) (x2 : Int) (x3 : ByteArray) (x4 : Option Addr) (x5 : Nat) (x6 : Nat) (w : World) : (Instr.build 35 [(0, .int .i64 x1), (3, .string x3), (2, .int .i64 x2), (5, .slice x4 x5 x6)].toArray).run Tryz.prog w = .ok (.agg #[.int .i64 x1, .int .i64 0, .int .i64 x2, .string x3, .string ⟨#[]⟩, .slice x4 x5 x6, .int .i64 0, .int .i64 0, .int .i64 0, .int .i64 0, .string ⟨#[]⟩]) w := by kernel_rfl
theorem bd35_0_3_4 (x1 : Int) (x2 : ByteArray) (x3 : ByteArray) (w : World) : (Instr.build 35 [(0, .int .i64 x1), (3, .string x2), (4, .string x3)].toArray).run Tryz.prog w = .ok (.agg #[.int .i64 x1, .int .i64 0, .int .i64 0, .string x2, .string x3, .slice none 0 0, .int .i64 0, .int .i64 0, .int .i64 0, .int .i64 0, .string ⟨#[]⟩]) w := by kernel_rfl
theorem bd40  (w : World) : (Instr.build 40 [].toArray).run Tryz.prog w = .ok (.agg #[.pointer none]) w := by kernel_rfl
theorem bd40_0 (x1 : Option Addr) (w : World) : (Instr.build 40 [(0, .pointer x1)].toArray).run Tryz.prog w = .ok (.agg #[.pointer x1]) w := by kernel_rfl
theorem bd45_0_1 (x1 : ByteArray) (x2 : ByteArray) (w : World) : (Instr.build 45 [(0, .string x1), (1, .string x2)].toArray).run Tryz.prog w = .ok (.agg #[.string x1, .string x2]) w := by kernel_rfl
theorem bd51_0_1_2 (x1 : Int) (x2 : Int) (x3 : ByteArray) (w : World) : (Instr.build 51 [(0, .int .i64 x1), (1, .int .i64 x2), (2, .string x3)].toArray).run Tryz.prog w = .ok (.agg #[.int .i64 x1, .int .i64 x2, .string x3]) w := by kernel_rfl
theorem bd60  (w : World) : (Instr.build 60 [].toArray).run Tryz.prog w = .ok (.agg #[.int .i64 0, .int .i64 0, .int .i64 0, .int .i64 0, .slice none 0 0, .string ⟨#[]⟩]) w := by kernel_rfl
theorem bd60_0_1_2_3 (x1 : Int) (x2 : Int) (x3 : Int) (x4 : Int) (w : World) : (Instr.build 60 [(0, .int .i64 x1), (1, .int .i64 x2), (2, .int .i64 x3), (3, .int .i64 x4)].toArray).run Tryz.prog w = .ok (.agg #[.int .i64 x1, .int .i64 x2, .int .i64 x3, .int .i64 x4, .slice none 0 0, .string ⟨#[]⟩]) w := by kernel_rfl
theorem bd60_0_1_3 (x1 : Int) (x2 : Int) (x3 : Int) (w : World) : (Instr.build 60 [(0, .int .i64 x1), (1, .int .i64 x2), (3, .int .i64 x3)].toArray).run Tryz.prog w = .ok (.agg #[.int .i64 x1, .int .i64 x2, .int .i64 0, .int .i64 x3, .slice none 0 0, .string ⟨#[]⟩]) w := by kernel_rfl
theorem bd64_0_1_2 (x1 : Int) (x2 : Int) (x3 : Int) (w : World) : (Instr.build 64 [(0, .int .i64 x1), (1, .int .i64 x2), (2, .int .i64 x3)].toArray).run Tryz.prog w = .ok (.agg #[.int .i64 x1, .int .i64 x2, .int .i64 x3]) w := by kernel_rfl
theorem bd64_1 (x1 : Int) (w : World) : (Instr.build 64 [(1, .int .i64 x1)].toArray).run Tryz.prog w = .ok (.agg #[.int .i64 0, .int .i64 x1, .int .i64 0]) w := by kernel_rfl
theorem bd64_1_2 (x1 : Int) (x2 : Int) (w : World) : (Instr.build 64 [(1, .int .i64 x1), (2, .int .i64 x2)].toArray).run Tryz.prog w = .ok (.agg #[.int .i64 0, .int .i64 x1, .int .i64 x2]) w := by kernel_rfl
theorem bd67  (w : World) : (Instr.build 67 [].toArray).run Tryz.prog w = .ok (.agg #[.slice none 0 0, .string ⟨#[]⟩]) w := by kernel_rfl
theorem bd67_0 (x1 : Option Addr) (x2 : Nat) (x3 : Nat) (w : World) : (Instr.build 67 [(0, .slice x1 x2 x3)].toArray).run Tryz.prog w = .ok (.agg #[.slice x1 x2 x3, .string ⟨#[]⟩]) w := by kernel_rfl
theorem bd67_0_1 (x1 : Option Addr) (x2 : Nat) (x3 : Nat) (x4 : ByteArray) (w : World) : (Instr.build 67 [(0, .slice x1 x2 x3), (1, .string x4)].toArray).run Tryz.prog w = .ok (.agg #[.slice x1 x2 x3, .string x4]) w := by kernel_rfl
theorem bd67_1 (x1 : ByteArray) (w : World) : (Instr.build 67 [(1, .string x1)].toArray).run Tryz.prog w = .ok (.agg #[.slice none 0 0, .string x1]) w := by kernel_rfl
theorem bd72_4 (x1 : Option Addr) (w : World) : (Instr.build 72 [(4, .pointer x1)].toArray).run Tryz.prog w = .ok (.agg #[.slice none 0 0, .slice none 0 0, .slice none 0 0, .int .i64 0, .pointer x1]) w := by kernel_rfl
theorem bd96_0_1 (x1 : Int) (x2 : Int) (w : World) : (Instr.build 96 [(0, .int .u8 x1), (1, .int .i64 x2)].toArray).run Tryz.prog w = .ok (.agg #[.int .u8 x1, .int .i64 x2]) w := by kernel_rfl
-- no fact on build 102 (0, 1, 2, 3)
theorem bd126_0_1_3_4_5 (x1 : Option Addr) (x2 : Option Addr) (x3 : Int) (x4 : Int) (x5 : Int) (w : World) : (Instr.build 126 [(0, .pointer x1), (1, .pointer x2), (3, .int .i64 x3), (4, .int .i64 x4), (5, .int .i64 x5)].toArray).run Tryz.prog w = .ok (.agg #[.pointer x1, .pointer x2, .string ⟨#[]⟩, .int .i64 x3, .int .i64 x4, .int .i64 x5]) w := by kernel_rfl
theorem bd126_2_3_5 (x1 : ByteArray) (x2 : Int) (x3 : Int) (w : World) : (Instr.build 126 [(2, .string x1), (3, .int .i64 x2), (5, .int .i64 x3)].toArray).run Tryz.prog w = .ok (.agg #[.pointer none, .pointer none, .string x1, .int .i64 x2, .int .i64 0, .int .i64 x3]) w := by kernel_rfl
theorem bd130_2 (x1 : Option Nat) (w : World) : (Instr.build 130 [(2, .map x1)].toArray).run Tryz.prog w = .ok (.agg #[.int .i64 0, .int .i64 0, .int .i64 0, .int .i64 0, .map x1]) w := by kernel_rfl
theorem bd148_1_2_3 (x1 : Int) (x2 : Int) (x3 : Int) (w : World) : (Instr.build 148 [(1, .int .i64 x1), (2, .int .i64 x2), (3, .int .i64 x3)].toArray).run Tryz.prog w = .ok (.agg #[.slice none 0 0, .string ⟨#[]⟩, .int .i64 x1, .int .i64 x2, .int .i64 x3, .slice none 0 0, .int .i64 0]) w := by kernel_rfl
theorem bd161_0 (x1 : Int) (w : World) : (Instr.build 161 [(0, .int .i64 x1)].toArray).run Tryz.prog w = .ok (.agg #[.int .i64 x1]) w := by kernel_rfl
theorem bd174_0_1_2 (x1 : Option Addr) (x2 : Nat) (x3 : Nat) (x4 : ByteArray) (x5 : Int) (x6 : Int) (w : World) : (Instr.build 174 [(0, .agg #[.slice x1 x2 x3, .string x4]), (1, .int .i64 x5), (2, .int .i64 x6)].toArray).run Tryz.prog w = .ok (.agg #[.slice x1 x2 x3, .string x4, .int .i64 x5, .int .i64 x6]) w := by kernel_rfl
theorem bd219_0_1 (x1 : Int) (x2 : Int) (w : World) : (Instr.build 219 [(0, .int .i64 x1), (1, .int .i64 x2)].toArray).run Tryz.prog w = .ok (.agg #[.int .i64 x1, .int .i64 x2]) w := by kernel_rfl
theorem bd225_0_2 (x1 : Option Addr) (x2 : Nat) (x3 : Nat) (x4 : Int) (w : World) : (Instr.build 225 [(0, .slice x1 x2 x3), (2, .int .i64 x4)].toArray).run Tryz.prog w = .ok (.agg #[.slice x1 x2 x3, .slice none 0 0, .int .i64 x4]) w := by kernel_rfl
theorem bd228_0_1_2 (x1 : Int) (x2 : Int) (x3 : Int) (w : World) : (Instr.build 228 [(0, .int .u16 x1), (1, .int .u16 x2), (2, .int .u16 x3)].toArray).run Tryz.prog w = .ok (.agg #[.int .u16 x1, .int .u16 x2, .int .u16 x3]) w := by kernel_rfl
theorem bs22_1 (x1 : Int) (x2 : Int) (x3 : ByteArray) (w : World) : (Instr.buildSlice 22 1 [(0, .agg #[.int .i64 x1, .int .i64 x2, .string x3])].toArray).run Tryz.prog w = .ok (.slice (some ⟨w.heap.size, 0, none⟩) 1 1) (w.alloc (.cells [.int .i64 x1, .int .i64 x2, .string x3].toArray 51)) := by kernel_rfl
theorem bs29_1 (x1 : Int) (x2 : Int) (x3 : Int) (x4 : Int) (x5 : Option Addr) (x6 : Nat) (x7 : Nat) (x8 : ByteArray) (w : World) : (Instr.buildSlice 29 1 [(0, .agg #[.int .i64 x1, .int .i64 x2, .int .i64 x3, .int .i64 x4, .slice x5 x6 x7, .string x8])].toArray).run Tryz.prog w = .ok (.slice (some ⟨w.heap.size, 0, none⟩) 1 1) (w.alloc (.cells [.int .i64 x1, .int .i64 x2, .int .i64 x3, .int .i64 x4, .slice x5 x6 x7, .string x8].toArray 60)) := by kernel_rfl
theorem bs46_0  (w : World) : (Instr.buildSlice 46 0 [].toArray).run Tryz.prog w = .ok (.slice (some ⟨w.heap.size, 0, none⟩) 0 0) (w.alloc (.cells [].toArray 45)) := by kernel_rfl
theorem bs46_1 (x1 : ByteArray) (x2 : ByteArray) (w : World) : (Instr.buildSlice 46 1 [(0, .agg #[.string x1, .string x2])].toArray).run Tryz.prog w = .ok (.slice (some ⟨w.heap.size, 0, none⟩) 1 1) (w.alloc (.cells [.string x1, .string x2].toArray 45)) := by kernel_rfl
theorem bs54_1 (x1 : Int) (x2 : Int) (w : World) : (Instr.buildSlice 54 1 [(0, .agg #[.int .u8 x1, .int .i64 x2])].toArray).run Tryz.prog w = .ok (.slice (some ⟨w.heap.size, 0, none⟩) 1 1) (w.alloc (.cells [.int .u8 x1, .int .i64 x2].toArray 96)) := by kernel_rfl
theorem bs58_0  (w : World) : (Instr.buildSlice 58 0 [].toArray).run Tryz.prog w = .ok (.slice (some ⟨w.heap.size, 0, none⟩) 0 0) (w.alloc (.cells [].toArray 3)) := by kernel_rfl
theorem bs58_1 (x1 : Int) (w : World) : (Instr.buildSlice 58 1 [(0, .int .i64 x1)].toArray).run Tryz.prog w = .ok (.slice (some ⟨w.heap.size, 0, none⟩) 1 1) (w.alloc (.cells [.int .i64 x1].toArray 3)) := by kernel_rfl
theorem bs70_1 (x1 : Int) (x2 : Int) (x3 : Int) (x4 : Int) (x5 : ByteArray) (w : World) : (Instr.buildSlice 70 1 [(0, .agg #[.int .i64 x1, .int .i64 x2, .int .i64 x3, .int .i64 x4, .string x5])].toArray).run Tryz.prog w = .ok (.slice (some ⟨w.heap.size, 0, none⟩) 1 1) (w.alloc (.cells [.int .i64 x1, .int .i64 x2, .int .i64 x3, .int .i64 x4, .string x5].toArray 33)) := by kernel_rfl
theorem bs81_1 (x1 : Int) (w : World) : (Instr.buildSlice 81 1 [(0, .int .u8 x1)].toArray).run Tryz.prog w = .ok (.slice (some ⟨w.heap.size, 0, none⟩) 1 1) (w.alloc (.cells [.int .u8 x1].toArray 5)) := by kernel_rfl
theorem bs121_1 (x1 : Int) (x2 : Int) (x3 : Int) (w : World) : (Instr.buildSlice 121 1 [(0, .agg #[.int .i64 x1, .int .i64 x2, .int .i64 x3])].toArray).run Tryz.prog w = .ok (.slice (some ⟨w.heap.size, 0, none⟩) 1 1) (w.alloc (.cells [.int .i64 x1, .int .i64 x2, .int .i64 x3].toArray 64)) := by kernel_rfl
theorem bs217_1 (x1 : Int) (x2 : Int) (w : World) : (Instr.buildSlice 217 1 [(0, .agg #[.int .i64 x1, .int .i64 x2])].toArray).run Tryz.prog w = .ok (.slice (some ⟨w.heap.size, 0, none⟩) 1 1) (w.alloc (.cells [.int .i64 x1, .int .i64 x2].toArray 219)) := by kernel_rfl
theorem bs222_7 (x1 : Int) (x2 : Int) (x3 : Int) (x4 : Int) (x5 : Int) (x6 : Int) (x7 : Int) (x8 : Int) (x9 : Int) (x10 : Int) (x11 : Int) (x12 : Int) (x13 : Int) (x14 : Int) (x15 : Int) (x16 : Int) (x17 : Int) (x18 : Int) (x19 : Int) (x20 : Int) (x21 : Int) (w : World) : (Instr.buildSlice 222 7 [(0, .agg #[.int .u16 x1, .int .u16 x2, .int .u16 x3]), (1, .agg #[.int .u16 x4, .int .u16 x5, .int .u16 x6]), (2, .agg #[.int .u16 x7, .int .u16 x8, .int .u16 x9]), (3, .agg #[.int .u16 x10, .int .u16 x11, .int .u16 x12]), (4, .agg #[.int .u16 x13, .int .u16 x14, .int .u16 x15]), (5, .agg #[.int .u16 x16, .int .u16 x17, .int .u16 x18]), (6, .agg #[.int .u16 x19, .int .u16 x20, .int .u16 x21])].toArray).run Tryz.prog w = .ok (.slice (some ⟨w.heap.size, 0, none⟩) 7 7) (w.alloc (.cells [.int .u16 x1, .int .u16 x2, .int .u16 x3, .int .u16 x4, .int .u16 x5, .int .u16 x6, .int .u16 x7, .int .u16 x8, .int .u16 x9, .int .u16 x10, .int .u16 x11, .int .u16 x12, .int .u16 x13, .int .u16 x14, .int .u16 x15, .int .u16 x16, .int .u16 x17, .int .u16 x18, .int .u16 x19, .int .u16 x20, .int .u16 x21].toArray 228)) := by kernel_rfl
theorem inf3 : ∃ i, Tryz.prog.info? 3 = some i ∧ i.zero = some (.int .i64 0) ∧ i.size = 1 ∧ i.bytes = 8 := info_parts (by kernel_rfl)
theorem inf5 : ∃ i, Tryz.prog.info? 5 = some i ∧ i.zero = some (.int .u8 0) ∧ i.size = 1 ∧ i.bytes = 1 := info_parts (by kernel_rfl)
theorem inf9 : ∃ i, Tryz.prog.info? 9 = some i ∧ i.zero = some (.string ⟨#[]⟩) ∧ i.size = 1 ∧ i.bytes = 16 := info_parts (by kernel_rfl)
theorem inf33 : ∃ i, Tryz.prog.info? 33 = some i ∧ i.zero = some (.agg #[.int .i64 0, .int .i64 0, .int .i64 0, .int .i64 0, .string ⟨#[]⟩]) ∧ i.size = 5 ∧ i.bytes = 48 := info_parts (by kernel_rfl)
theorem inf45 : ∃ i, Tryz.prog.info? 45 = some i ∧ i.zero = some (.agg #[.string ⟨#[]⟩, .string ⟨#[]⟩]) ∧ i.size = 2 ∧ i.bytes = 32 := info_parts (by kernel_rfl)
theorem inf51 : ∃ i, Tryz.prog.info? 51 = some i ∧ i.zero = some (.agg #[.int .i64 0, .int .i64 0, .string ⟨#[]⟩]) ∧ i.size = 3 ∧ i.bytes = 32 := info_parts (by kernel_rfl)
theorem inf60 : ∃ i, Tryz.prog.info? 60 = some i ∧ i.zero = some (.agg #[.int .i64 0, .int .i64 0, .int .i64 0, .int .i64 0, .slice none 0 0, .string ⟨#[]⟩]) ∧ i.size = 6 ∧ i.bytes = 72 := info_parts (by kernel_rfl)
theorem inf64 : ∃ i, Tryz.prog.info? 64 = some i ∧ i.zero = some (.agg #[.int .i64 0, .int .i64 0, .int .i64 0]) ∧ i.size = 3 ∧ i.bytes = 24 := info_parts (by kernel_rfl)
theorem inf72 : ∃ i, Tryz.prog.info? 72 = some i ∧ i.zero = some (.agg #[.slice none 0 0, .slice none 0 0, .slice none 0 0, .int .i64 0, .pointer none]) ∧ i.size = 5 ∧ i.bytes = 88 := info_parts (by kernel_rfl)
theorem inf83 : ∃ i, Tryz.prog.info? 83 = some i ∧ i.zero = some (.agg #[.pointer none, .slice none 0 0]) ∧ i.size = 2 ∧ i.bytes = 32 := info_parts (by kernel_rfl)
theorem inf96 : ∃ i, Tryz.prog.info? 96 = some i ∧ i.zero = some (.agg #[.int .u8 0, .int .i64 0]) ∧ i.size = 2 ∧ i.bytes = 16 := info_parts (by kernel_rfl)
theorem inf102 : ∃ i, Tryz.prog.info? 102 = some i ∧ i.zero = some (.agg #[.nilFunc, .pointer none, .map none, .map none, .nilFunc, .int .i64 0, .int .i64 0]) ∧ i.size = 7 ∧ i.bytes = 56 := info_parts (by kernel_rfl)
theorem inf126 : ∃ i, Tryz.prog.info? 126 = some i ∧ i.zero = some (.agg #[.pointer none, .pointer none, .string ⟨#[]⟩, .int .i64 0, .int .i64 0, .int .i64 0]) ∧ i.size = 6 ∧ i.bytes = 56 := info_parts (by kernel_rfl)
theorem inf130 : ∃ i, Tryz.prog.info? 130 = some i ∧ i.zero = some (.agg #[.int .i64 0, .int .i64 0, .int .i64 0, .int .i64 0, .map none]) ∧ i.size = 5 ∧ i.bytes = 40 := info_parts (by kernel_rfl)
theorem inf148 : ∃ i, Tryz.prog.info? 148 = some i ∧ i.zero = some (.agg #[.slice none 0 0, .string ⟨#[]⟩, .int .i64 0, .int .i64 0, .int .i64 0, .slice none 0 0, .int .i64 0]) ∧ i.size = 7 ∧ i.bytes = 96 := info_parts (by kernel_rfl)
theorem inf206 : ∃ i, Tryz.prog.info? 206 = some i ∧ i.zero = some (.int .u64 0) ∧ i.size = 1 ∧ i.bytes = 8 := info_parts (by kernel_rfl)
theorem inf219 : ∃ i, Tryz.prog.info? 219 = some i ∧ i.zero = some (.agg #[.int .i64 0, .int .i64 0]) ∧ i.size = 2 ∧ i.bytes = 16 := info_parts (by kernel_rfl)
theorem inf225 : ∃ i, Tryz.prog.info? 225 = some i ∧ i.zero = some (.agg #[.slice none 0 0, .slice none 0 0, .int .i64 0]) ∧ i.size = 3 ∧ i.bytes = 56 := info_parts (by kernel_rfl)
theorem inf228 : ∃ i, Tryz.prog.info? 228 = some i ∧ i.zero = some (.agg #[.int .u16 0, .int .u16 0, .int .u16 0]) ∧ i.size = 3 ∧ i.bytes = 6 := info_parts (by kernel_rfl)
theorem inf231 : ∃ i, Tryz.prog.info? 231 = some i ∧ i.zero = some (.agg #[.int .u32 0, .int .u32 0, .int .u32 0]) ∧ i.size = 3 ∧ i.bytes = 12 := info_parts (by kernel_rfl)
theorem inf236 : ∃ i, Tryz.prog.info? 236 = some i ∧ i.zero = some (.agg #[.pointer none, .pointer none, .pointer none, .string ⟨#[]⟩]) ∧ i.size = 4 ∧ i.bytes = 40 := info_parts (by kernel_rfl)
theorem inf239 : ∃ i, Tryz.prog.info? 239 = some i ∧ i.zero = some (.agg #[]) ∧ i.size = 0 ∧ i.bytes = 0 := info_parts (by kernel_rfl)
theorem inf246 : ∃ i, Tryz.prog.info? 246 = some i ∧ i.zero = some (.agg #[.int .u64 0, .int .u64 0, .int .u32 0, .int .u8 0, .int .u8 0, .int .u8 0, .int .u8 0, .nilFunc, .pointer none, .int .i32 0, .int .i32 0]) ∧ i.size = 11 ∧ i.bytes = 48 := info_parts (by kernel_rfl)
theorem mixed : Tryz.prog.follows .mixedOrders = true := by kernel_rfl
end Go.Proofs.YtbnkncemfadfjaaGreatDoor
