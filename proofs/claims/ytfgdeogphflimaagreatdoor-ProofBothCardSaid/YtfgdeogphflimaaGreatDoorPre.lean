/- What is known of the program's types: printed by wip/tools/gen_pre.py. -/
import Derived.Test.YtfgdeogphflimaaGreatDoorProg
import Derived.Test.YtfgdeogphflimaaGreatDoorENats
set_option linter.unusedVariables false
namespace Go.Eng
open Go Go.Proofs
theorem mixed : Tryz.prog.follows .mixedOrders = true := by kernel_rfl
theorem ti3 : TI Tryz.prog 3 (.int .i64) 1 8 := ⟨by kernel_rfl, Tryz.prog.types.getD 3 default, by kernel_rfl, by kernel_rfl, by kernel_rfl⟩
theorem zi3 : ZI Tryz.prog 3 (.int .i64 0) := ⟨Tryz.prog.types.getD 3 default, by kernel_rfl, by kernel_rfl⟩
theorem ti4 : TI Tryz.prog 4 .bool 1 1 := ⟨by kernel_rfl, Tryz.prog.types.getD 4 default, by kernel_rfl, by kernel_rfl, by kernel_rfl⟩
theorem zi4 : ZI Tryz.prog 4 (.bool false) := ⟨Tryz.prog.types.getD 4 default, by kernel_rfl, by kernel_rfl⟩
theorem ti5 : TI Tryz.prog 5 (.int .u8) 1 1 := ⟨by kernel_rfl, Tryz.prog.types.getD 5 default, by kernel_rfl, by kernel_rfl, by kernel_rfl⟩
theorem zi5 : ZI Tryz.prog 5 (.int .u8 0) := ⟨Tryz.prog.types.getD 5 default, by kernel_rfl, by kernel_rfl⟩
theorem ti9 : TI Tryz.prog 9 .string 1 16 := ⟨by kernel_rfl, Tryz.prog.types.getD 9 default, by kernel_rfl, by kernel_rfl, by kernel_rfl⟩
theorem zi9 : ZI Tryz.prog 9 (.string ByteArray.empty) := ⟨Tryz.prog.types.getD 9 default, by kernel_rfl, by kernel_rfl⟩
theorem ti23 : TI Tryz.prog 23 (.array 32 5) 32 32 := ⟨by kernel_rfl, Tryz.prog.types.getD 23 default, by kernel_rfl, by kernel_rfl, by kernel_rfl⟩
abbrev z23 : Segs := [sgB (z8 32)]
theorem zi23 : ZI Tryz.prog 23 (aggS z23) := ⟨Tryz.prog.types.getD 23 default, by kernel_rfl, by kernel_rfl⟩
theorem ai23 : AI Tryz.prog 23 5 32 1 := ⟨by kernel_rfl, ti5, by kernel_rfl⟩
theorem ti24 : TI Tryz.prog 24 (.array 32 5) 32 32 := ⟨by kernel_rfl, Tryz.prog.types.getD 24 default, by kernel_rfl, by kernel_rfl, by kernel_rfl⟩
abbrev z24 : Segs := [sgB (z8 32)]
theorem zi24 : ZI Tryz.prog 24 (aggS z24) := ⟨Tryz.prog.types.getD 24 default, by kernel_rfl, by kernel_rfl⟩
theorem ai24 : AI Tryz.prog 24 5 32 1 := ⟨by kernel_rfl, ti5, by kernel_rfl⟩
theorem ti26 : TI Tryz.prog 26 (.struct (Tryz.prog.fieldsOf 26)) 35 72 := ⟨by kernel_rfl, Tryz.prog.types.getD 26 default, by kernel_rfl, by kernel_rfl, by kernel_rfl⟩
abbrev z26 : Segs := [sg1 (.int .i64 0), sg1 (.string ByteArray.empty), sg1 (.string ByteArray.empty), sgB (z8 32)]
theorem zi26 : ZI Tryz.prog 26 (aggS z26) := ⟨Tryz.prog.types.getD 26 default, by kernel_rfl, by kernel_rfl⟩
theorem bi26 : BI Tryz.prog 26 [(0, 1), (1, 1), (2, 1), (3, 32)] z26 := ⟨zi26, Tryz.prog.fieldsOf 26, by kernel_rfl, fun w => by kernel_rfl⟩
theorem fi26_0 : FI Tryz.prog 26 0 0 3 := ⟨_, (Tryz.prog.fieldsOf 26).getD 0 default, _, _, ti26, by kernel_rfl, by kernel_rfl, by kernel_rfl⟩
theorem fi26_1 : FI Tryz.prog 26 1 1 9 := ⟨_, (Tryz.prog.fieldsOf 26).getD 1 default, _, _, ti26, by kernel_rfl, by kernel_rfl, by kernel_rfl⟩
theorem fi26_2 : FI Tryz.prog 26 2 2 9 := ⟨_, (Tryz.prog.fieldsOf 26).getD 2 default, _, _, ti26, by kernel_rfl, by kernel_rfl, by kernel_rfl⟩
theorem fi26_3 : FI Tryz.prog 26 3 3 24 := ⟨_, (Tryz.prog.fieldsOf 26).getD 3 default, _, _, ti26, by kernel_rfl, by kernel_rfl, by kernel_rfl⟩
theorem ti28 : TI Tryz.prog 28 (.struct (Tryz.prog.fieldsOf 28)) 73 168 := ⟨by kernel_rfl, Tryz.prog.types.getD 28 default, by kernel_rfl, by kernel_rfl, by kernel_rfl⟩
abbrev z28 : Segs := [sg1 (.int .i64 0), sg1 (.int .i64 0), sg1 (.string ByteArray.empty), sg1 (.string ByteArray.empty), sgB (z8 32), sg1 (.int .i64 0), sg1 (.int .i64 0), sgB (z8 32), sg1 (.int .i64 0), sg1 (.string ByteArray.empty), sg1 (.string ByteArray.empty)]
theorem zi28 : ZI Tryz.prog 28 (aggS z28) := ⟨Tryz.prog.types.getD 28 default, by kernel_rfl, by kernel_rfl⟩
theorem bi28 : BI Tryz.prog 28 [(0, 1), (1, 35), (36, 1), (37, 1), (38, 32), (70, 1), (71, 1), (72, 1)] z28 := ⟨zi28, Tryz.prog.fieldsOf 28, by kernel_rfl, fun w => by kernel_rfl⟩
theorem fi28_0 : FI Tryz.prog 28 0 0 3 := ⟨_, (Tryz.prog.fieldsOf 28).getD 0 default, _, _, ti28, by kernel_rfl, by kernel_rfl, by kernel_rfl⟩
theorem fi28_1 : FI Tryz.prog 28 1 1 26 := ⟨_, (Tryz.prog.fieldsOf 28).getD 1 default, _, _, ti28, by kernel_rfl, by kernel_rfl, by kernel_rfl⟩
theorem fi28_2 : FI Tryz.prog 28 2 36 3 := ⟨_, (Tryz.prog.fieldsOf 28).getD 2 default, _, _, ti28, by kernel_rfl, by kernel_rfl, by kernel_rfl⟩
theorem fi28_3 : FI Tryz.prog 28 3 37 3 := ⟨_, (Tryz.prog.fieldsOf 28).getD 3 default, _, _, ti28, by kernel_rfl, by kernel_rfl, by kernel_rfl⟩
theorem fi28_4 : FI Tryz.prog 28 4 38 24 := ⟨_, (Tryz.prog.fieldsOf 28).getD 4 default, _, _, ti28, by kernel_rfl, by kernel_rfl, by kernel_rfl⟩
theorem fi28_5 : FI Tryz.prog 28 5 70 3 := ⟨_, (Tryz.prog.fieldsOf 28).getD 5 default, _, _, ti28, by kernel_rfl, by kernel_rfl, by kernel_rfl⟩
theorem fi28_6 : FI Tryz.prog 28 6 71 9 := ⟨_, (Tryz.prog.fieldsOf 28).getD 6 default, _, _, ti28, by kernel_rfl, by kernel_rfl, by kernel_rfl⟩
theorem fi28_7 : FI Tryz.prog 28 7 72 9 := ⟨_, (Tryz.prog.fieldsOf 28).getD 7 default, _, _, ti28, by kernel_rfl, by kernel_rfl, by kernel_rfl⟩
theorem ti34 : TI Tryz.prog 34 (.int .u64) 1 8 := ⟨by kernel_rfl, Tryz.prog.types.getD 34 default, by kernel_rfl, by kernel_rfl, by kernel_rfl⟩
theorem zi34 : ZI Tryz.prog 34 (.int .u64 0) := ⟨Tryz.prog.types.getD 34 default, by kernel_rfl, by kernel_rfl⟩
theorem ti71 : TI Tryz.prog 71 (.array 16 5) 16 16 := ⟨by kernel_rfl, Tryz.prog.types.getD 71 default, by kernel_rfl, by kernel_rfl, by kernel_rfl⟩
abbrev z71 : Segs := [sgB (z8 16)]
theorem zi71 : ZI Tryz.prog 71 (aggS z71) := ⟨Tryz.prog.types.getD 71 default, by kernel_rfl, by kernel_rfl⟩
theorem ai71 : AI Tryz.prog 71 5 16 1 := ⟨by kernel_rfl, ti5, by kernel_rfl⟩
theorem ti73 : TI Tryz.prog 73 (.struct (Tryz.prog.fieldsOf 73)) 17 24 := ⟨by kernel_rfl, Tryz.prog.types.getD 73 default, by kernel_rfl, by kernel_rfl, by kernel_rfl⟩
abbrev z73 : Segs := [sgB (z8 16), sg1 (.int .i64 0)]
theorem zi73 : ZI Tryz.prog 73 (aggS z73) := ⟨Tryz.prog.types.getD 73 default, by kernel_rfl, by kernel_rfl⟩
theorem bi73 : BI Tryz.prog 73 [(0, 16), (16, 1)] z73 := ⟨zi73, Tryz.prog.fieldsOf 73, by kernel_rfl, fun w => by kernel_rfl⟩
theorem fi73_0 : FI Tryz.prog 73 0 0 71 := ⟨_, (Tryz.prog.fieldsOf 73).getD 0 default, _, _, ti73, by kernel_rfl, by kernel_rfl, by kernel_rfl⟩
theorem fi73_1 : FI Tryz.prog 73 1 16 3 := ⟨_, (Tryz.prog.fieldsOf 73).getD 1 default, _, _, ti73, by kernel_rfl, by kernel_rfl, by kernel_rfl⟩
theorem ti35 : TI Tryz.prog 35 (.slice 73) 1 24 := ⟨by kernel_rfl, Tryz.prog.types.getD 35 default, by kernel_rfl, by kernel_rfl, by kernel_rfl⟩
theorem zi35 : ZI Tryz.prog 35 (.slice none 0 0) := ⟨Tryz.prog.types.getD 35 default, by kernel_rfl, by kernel_rfl⟩
theorem ti37 : TI Tryz.prog 37 (.slice 28) 1 24 := ⟨by kernel_rfl, Tryz.prog.types.getD 37 default, by kernel_rfl, by kernel_rfl, by kernel_rfl⟩
theorem zi37 : ZI Tryz.prog 37 (.slice none 0 0) := ⟨Tryz.prog.types.getD 37 default, by kernel_rfl, by kernel_rfl⟩
theorem ti47 : TI Tryz.prog 47 (.int .i64) 1 8 := ⟨by kernel_rfl, Tryz.prog.types.getD 47 default, by kernel_rfl, by kernel_rfl, by kernel_rfl⟩
theorem zi47 : ZI Tryz.prog 47 (.int .i64 0) := ⟨Tryz.prog.types.getD 47 default, by kernel_rfl, by kernel_rfl⟩
theorem ti67 : TI Tryz.prog 67 (.pointer 156) 1 8 := ⟨by kernel_rfl, Tryz.prog.types.getD 67 default, by kernel_rfl, by kernel_rfl, by kernel_rfl⟩
theorem zi67 : ZI Tryz.prog 67 (.pointer none) := ⟨Tryz.prog.types.getD 67 default, by kernel_rfl, by kernel_rfl⟩
theorem ti76 : TI Tryz.prog 76 (.struct (Tryz.prog.fieldsOf 76)) 35 64 := ⟨by kernel_rfl, Tryz.prog.types.getD 76 default, by kernel_rfl, by kernel_rfl, by kernel_rfl⟩
abbrev z76 : Segs := [sg1 (.int .i64 0), sg1 (.int .i64 0), sgB (z8 32), sg1 (.string ByteArray.empty)]
theorem zi76 : ZI Tryz.prog 76 (aggS z76) := ⟨Tryz.prog.types.getD 76 default, by kernel_rfl, by kernel_rfl⟩
theorem bi76 : BI Tryz.prog 76 [(0, 1), (1, 1), (2, 32), (34, 1)] z76 := ⟨zi76, Tryz.prog.fieldsOf 76, by kernel_rfl, fun w => by kernel_rfl⟩
theorem fi76_0 : FI Tryz.prog 76 0 0 3 := ⟨_, (Tryz.prog.fieldsOf 76).getD 0 default, _, _, ti76, by kernel_rfl, by kernel_rfl, by kernel_rfl⟩
theorem fi76_1 : FI Tryz.prog 76 1 1 3 := ⟨_, (Tryz.prog.fieldsOf 76).getD 1 default, _, _, ti76, by kernel_rfl, by kernel_rfl, by kernel_rfl⟩
theorem fi76_2 : FI Tryz.prog 76 2 2 24 := ⟨_, (Tryz.prog.fieldsOf 76).getD 2 default, _, _, ti76, by kernel_rfl, by kernel_rfl, by kernel_rfl⟩
theorem fi76_3 : FI Tryz.prog 76 3 34 9 := ⟨_, (Tryz.prog.fieldsOf 76).getD 3 default, _, _, ti76, by kernel_rfl, by kernel_rfl, by kernel_rfl⟩
theorem ti77 : TI Tryz.prog 77 (.array 2 76) 70 128 := ⟨by kernel_rfl, Tryz.prog.types.getD 77 default, by kernel_rfl, by kernel_rfl, by kernel_rfl⟩
abbrev z77 : Segs := [sg1 (.int .i64 0), sg1 (.int .i64 0), sgB (z8 32), sg1 (.string ByteArray.empty), sg1 (.int .i64 0), sg1 (.int .i64 0), sgB (z8 32), sg1 (.string ByteArray.empty)]
theorem zi77 : ZI Tryz.prog 77 (aggS z77) := ⟨Tryz.prog.types.getD 77 default, by kernel_rfl, by kernel_rfl⟩
theorem ti78 : TI Tryz.prog 78 (.array 2 24) 64 64 := ⟨by kernel_rfl, Tryz.prog.types.getD 78 default, by kernel_rfl, by kernel_rfl, by kernel_rfl⟩
abbrev z78 : Segs := [sgB (z8 32), sgB (z8 32)]
theorem zi78 : ZI Tryz.prog 78 (aggS z78) := ⟨Tryz.prog.types.getD 78 default, by kernel_rfl, by kernel_rfl⟩
theorem ti84 : TI Tryz.prog 84 (.struct (Tryz.prog.fieldsOf 84)) 105 200 := ⟨by kernel_rfl, Tryz.prog.types.getD 84 default, by kernel_rfl, by kernel_rfl, by kernel_rfl⟩
abbrev z84 : Segs := [sg1 (.int .i64 0), sg1 (.int .i64 0), sg1 (.int .i64 0), sg1 (.int .i64 0), sgB (z8 32), sg1 (.string ByteArray.empty), sg1 (.int .i64 0), sg1 (.int .i64 0), sgB (z8 32), sg1 (.string ByteArray.empty), sgB (z8 32), sg1 (.slice none 0 0)]
theorem zi84 : ZI Tryz.prog 84 (aggS z84) := ⟨Tryz.prog.types.getD 84 default, by kernel_rfl, by kernel_rfl⟩
theorem bi84 : BI Tryz.prog 84 [(0, 1), (1, 1), (2, 35), (37, 35), (72, 32), (104, 1)] z84 := ⟨zi84, Tryz.prog.fieldsOf 84, by kernel_rfl, fun w => by kernel_rfl⟩
theorem fi84_0 : FI Tryz.prog 84 0 0 3 := ⟨_, (Tryz.prog.fieldsOf 84).getD 0 default, _, _, ti84, by kernel_rfl, by kernel_rfl, by kernel_rfl⟩
theorem fi84_1 : FI Tryz.prog 84 1 1 3 := ⟨_, (Tryz.prog.fieldsOf 84).getD 1 default, _, _, ti84, by kernel_rfl, by kernel_rfl, by kernel_rfl⟩
theorem fi84_2 : FI Tryz.prog 84 2 2 76 := ⟨_, (Tryz.prog.fieldsOf 84).getD 2 default, _, _, ti84, by kernel_rfl, by kernel_rfl, by kernel_rfl⟩
theorem fi84_3 : FI Tryz.prog 84 3 37 76 := ⟨_, (Tryz.prog.fieldsOf 84).getD 3 default, _, _, ti84, by kernel_rfl, by kernel_rfl, by kernel_rfl⟩
theorem fi84_4 : FI Tryz.prog 84 4 72 24 := ⟨_, (Tryz.prog.fieldsOf 84).getD 4 default, _, _, ti84, by kernel_rfl, by kernel_rfl, by kernel_rfl⟩
theorem fi84_5 : FI Tryz.prog 84 5 104 37 := ⟨_, (Tryz.prog.fieldsOf 84).getD 5 default, _, _, ti84, by kernel_rfl, by kernel_rfl, by kernel_rfl⟩
theorem ti86 : TI Tryz.prog 86 (.slice 5) 1 24 := ⟨by kernel_rfl, Tryz.prog.types.getD 86 default, by kernel_rfl, by kernel_rfl, by kernel_rfl⟩
theorem zi86 : ZI Tryz.prog 86 (.slice none 0 0) := ⟨Tryz.prog.types.getD 86 default, by kernel_rfl, by kernel_rfl⟩
theorem ti142 : TI Tryz.prog 142 (.slice 9) 1 24 := ⟨by kernel_rfl, Tryz.prog.types.getD 142 default, by kernel_rfl, by kernel_rfl, by kernel_rfl⟩
theorem zi142 : ZI Tryz.prog 142 (.slice none 0 0) := ⟨Tryz.prog.types.getD 142 default, by kernel_rfl, by kernel_rfl⟩
theorem ti154 : TI Tryz.prog 154 (.slice 71) 1 24 := ⟨by kernel_rfl, Tryz.prog.types.getD 154 default, by kernel_rfl, by kernel_rfl, by kernel_rfl⟩
theorem zi154 : ZI Tryz.prog 154 (.slice none 0 0) := ⟨Tryz.prog.types.getD 154 default, by kernel_rfl, by kernel_rfl⟩
theorem ti156 : TI Tryz.prog 156 (.struct (Tryz.prog.fieldsOf 156)) 19 64 := ⟨by kernel_rfl, Tryz.prog.types.getD 156 default, by kernel_rfl, by kernel_rfl, by kernel_rfl⟩
abbrev z156 : Segs := [sg1 (.string ByteArray.empty), sg1 (.int .i64 0), sg1 (.slice none 0 0), sgB (z8 16)]
theorem zi156 : ZI Tryz.prog 156 (aggS z156) := ⟨Tryz.prog.types.getD 156 default, by kernel_rfl, by kernel_rfl⟩
theorem bi156 : BI Tryz.prog 156 [(0, 1), (1, 1), (2, 1), (3, 16)] z156 := ⟨zi156, Tryz.prog.fieldsOf 156, by kernel_rfl, fun w => by kernel_rfl⟩
theorem fi156_0 : FI Tryz.prog 156 0 0 9 := ⟨_, (Tryz.prog.fieldsOf 156).getD 0 default, _, _, ti156, by kernel_rfl, by kernel_rfl, by kernel_rfl⟩
theorem fi156_1 : FI Tryz.prog 156 1 1 3 := ⟨_, (Tryz.prog.fieldsOf 156).getD 1 default, _, _, ti156, by kernel_rfl, by kernel_rfl, by kernel_rfl⟩
theorem fi156_2 : FI Tryz.prog 156 2 2 154 := ⟨_, (Tryz.prog.fieldsOf 156).getD 2 default, _, _, ti156, by kernel_rfl, by kernel_rfl, by kernel_rfl⟩
theorem fi156_3 : FI Tryz.prog 156 3 3 71 := ⟨_, (Tryz.prog.fieldsOf 156).getD 3 default, _, _, ti156, by kernel_rfl, by kernel_rfl, by kernel_rfl⟩
theorem ti202 : TI Tryz.prog 202 (.slice 3) 1 24 := ⟨by kernel_rfl, Tryz.prog.types.getD 202 default, by kernel_rfl, by kernel_rfl, by kernel_rfl⟩
theorem zi202 : ZI Tryz.prog 202 (.slice none 0 0) := ⟨Tryz.prog.types.getD 202 default, by kernel_rfl, by kernel_rfl⟩
theorem ti211 : TI Tryz.prog 211 (.int .u32) 1 4 := ⟨by kernel_rfl, Tryz.prog.types.getD 211 default, by kernel_rfl, by kernel_rfl, by kernel_rfl⟩
theorem zi211 : ZI Tryz.prog 211 (.int .u32 0) := ⟨Tryz.prog.types.getD 211 default, by kernel_rfl, by kernel_rfl⟩
theorem ti207 : TI Tryz.prog 207 (.slice 211) 1 24 := ⟨by kernel_rfl, Tryz.prog.types.getD 207 default, by kernel_rfl, by kernel_rfl, by kernel_rfl⟩
theorem zi207 : ZI Tryz.prog 207 (.slice none 0 0) := ⟨Tryz.prog.types.getD 207 default, by kernel_rfl, by kernel_rfl⟩
theorem ti210 : TI Tryz.prog 210 (.int .u64) 1 8 := ⟨by kernel_rfl, Tryz.prog.types.getD 210 default, by kernel_rfl, by kernel_rfl, by kernel_rfl⟩
theorem zi210 : ZI Tryz.prog 210 (.int .u64 0) := ⟨Tryz.prog.types.getD 210 default, by kernel_rfl, by kernel_rfl⟩
theorem ti214 : TI Tryz.prog 214 (.slice 76) 1 24 := ⟨by kernel_rfl, Tryz.prog.types.getD 214 default, by kernel_rfl, by kernel_rfl, by kernel_rfl⟩
theorem zi214 : ZI Tryz.prog 214 (.slice none 0 0) := ⟨Tryz.prog.types.getD 214 default, by kernel_rfl, by kernel_rfl⟩
theorem ti225 : TI Tryz.prog 225 (.struct (Tryz.prog.fieldsOf 225)) 2 16 := ⟨by kernel_rfl, Tryz.prog.types.getD 225 default, by kernel_rfl, by kernel_rfl, by kernel_rfl⟩
abbrev z225 : Segs := [sg1 (.int .i64 0), sg1 (.int .i64 0)]
theorem zi225 : ZI Tryz.prog 225 (aggS z225) := ⟨Tryz.prog.types.getD 225 default, by kernel_rfl, by kernel_rfl⟩
theorem bi225 : BI Tryz.prog 225 [(0, 1), (1, 1)] z225 := ⟨zi225, Tryz.prog.fieldsOf 225, by kernel_rfl, fun w => by kernel_rfl⟩
theorem fi225_0 : FI Tryz.prog 225 0 0 3 := ⟨_, (Tryz.prog.fieldsOf 225).getD 0 default, _, _, ti225, by kernel_rfl, by kernel_rfl, by kernel_rfl⟩
theorem fi225_1 : FI Tryz.prog 225 1 1 3 := ⟨_, (Tryz.prog.fieldsOf 225).getD 1 default, _, _, ti225, by kernel_rfl, by kernel_rfl, by kernel_rfl⟩
theorem ti231 : TI Tryz.prog 231 (.array 35 3) 35 280 := ⟨by kernel_rfl, Tryz.prog.types.getD 231 default, by kernel_rfl, by kernel_rfl, by kernel_rfl⟩
abbrev z231 : Segs := [sgN (zN 35)]
theorem zi231 : ZI Tryz.prog 231 (aggS z231) := ⟨Tryz.prog.types.getD 231 default, by kernel_rfl, by kernel_rfl⟩
theorem ti254 : TI Tryz.prog 254 (.pointer 290) 1 8 := ⟨by kernel_rfl, Tryz.prog.types.getD 254 default, by kernel_rfl, by kernel_rfl, by kernel_rfl⟩
theorem zi254 : ZI Tryz.prog 254 (.pointer none) := ⟨Tryz.prog.types.getD 254 default, by kernel_rfl, by kernel_rfl⟩
theorem ti290 : TI Tryz.prog 290 (.struct (Tryz.prog.fieldsOf 290)) 2 24 := ⟨by kernel_rfl, Tryz.prog.types.getD 290 default, by kernel_rfl, by kernel_rfl, by kernel_rfl⟩
abbrev z290 : Segs := [sg1 (.string ByteArray.empty), sg1 (.bool false)]
theorem zi290 : ZI Tryz.prog 290 (aggS z290) := ⟨Tryz.prog.types.getD 290 default, by kernel_rfl, by kernel_rfl⟩
theorem bi290 : BI Tryz.prog 290 [(0, 1), (1, 1)] z290 := ⟨zi290, Tryz.prog.fieldsOf 290, by kernel_rfl, fun w => by kernel_rfl⟩
theorem fi290_0 : FI Tryz.prog 290 0 0 9 := ⟨_, (Tryz.prog.fieldsOf 290).getD 0 default, _, _, ti290, by kernel_rfl, by kernel_rfl, by kernel_rfl⟩
theorem fi290_1 : FI Tryz.prog 290 1 1 4 := ⟨_, (Tryz.prog.fieldsOf 290).getD 1 default, _, _, ti290, by kernel_rfl, by kernel_rfl, by kernel_rfl⟩
theorem ti297 : TI Tryz.prog 297 (.array 8 211) 8 32 := ⟨by kernel_rfl, Tryz.prog.types.getD 297 default, by kernel_rfl, by kernel_rfl, by kernel_rfl⟩
abbrev z297 : Segs := [sgW (zW 8)]
theorem zi297 : ZI Tryz.prog 297 (aggS z297) := ⟨Tryz.prog.types.getD 297 default, by kernel_rfl, by kernel_rfl⟩
theorem ti298 : TI Tryz.prog 298 (.array 8 211) 8 32 := ⟨by kernel_rfl, Tryz.prog.types.getD 298 default, by kernel_rfl, by kernel_rfl, by kernel_rfl⟩
abbrev z298 : Segs := [sgW (zW 8)]
theorem zi298 : ZI Tryz.prog 298 (aggS z298) := ⟨Tryz.prog.types.getD 298 default, by kernel_rfl, by kernel_rfl⟩
theorem ti320 : TI Tryz.prog 320 (.array 64 211) 64 256 := ⟨by kernel_rfl, Tryz.prog.types.getD 320 default, by kernel_rfl, by kernel_rfl, by kernel_rfl⟩
abbrev z320 : Segs := [sgW (zW 64)]
theorem zi320 : ZI Tryz.prog 320 (aggS z320) := ⟨Tryz.prog.types.getD 320 default, by kernel_rfl, by kernel_rfl⟩
end Go.Eng
