/- The types of this translation, in the calculus of YtfdfphaiefbflaaDoorCoreA: each fact off the tables, by the kernel. -/
import Derived.Test.YtfdfphaiefbflaaDoorCoreL
import Derived.Test.YtfdfphaiefbflaaDoorProg
set_option linter.unusedVariables false
namespace Go.Proofs.YtfdfphaiefbflaaDoorC
open Go.RowKit
theorem mixed : Tryd.prog.follows .mixedOrders = true := by kernel_rfl
theorem p_0 : plainT Tryd.prog 0 := ⟨by kernel_rfl, by kernel_rfl⟩
theorem p_1 : plainT Tryd.prog 1 := ⟨by kernel_rfl, by kernel_rfl⟩
theorem z_1 : zeroT Tryd.prog 1 [.nilFunc] := by unfold zeroT; kernel_rfl
theorem uf_1 : (match Tryd.prog.underlying 1 with | some (.func ..) => true | _ => false) = true := by kernel_rfl
theorem p_2 : plainT Tryd.prog 2 := ⟨by kernel_rfl, by kernel_rfl⟩
theorem z_2 : zeroT Tryd.prog 2 [.int .i64 0] := by unfold zeroT; kernel_rfl
theorem ui_2 : Tryd.prog.underlying 2 = some (.int .i64) := by kernel_rfl
theorem p_3 : plainT Tryd.prog 3 := ⟨by kernel_rfl, by kernel_rfl⟩
theorem z_3 : zeroT Tryd.prog 3 [.int .i64 0] := by unfold zeroT; kernel_rfl
theorem ui_3 : Tryd.prog.underlying 3 = some (.int .i64) := by kernel_rfl
theorem p_4 : plainT Tryd.prog 4 := ⟨by kernel_rfl, by kernel_rfl⟩
theorem z_4 : zeroT Tryd.prog 4 [.bool false] := by unfold zeroT; kernel_rfl
theorem ub_4 : Tryd.prog.underlying 4 = some .bool := by kernel_rfl
theorem p_5 : plainT Tryd.prog 5 := ⟨by kernel_rfl, by kernel_rfl⟩
theorem z_5 : zeroT Tryd.prog 5 [.int .u8 0] := by unfold zeroT; kernel_rfl
theorem ui_5 : Tryd.prog.underlying 5 = some (.int .u8) := by kernel_rfl
theorem p_9 : plainT Tryd.prog 9 := ⟨by kernel_rfl, by kernel_rfl⟩
theorem z_9 : zeroT Tryd.prog 9 [.string ⟨#[]⟩] := by unfold zeroT; kernel_rfl
theorem us_9 : Tryd.prog.underlying 9 = some .string := by kernel_rfl
theorem p_21 : plainT Tryd.prog 21 := ⟨by kernel_rfl, by kernel_rfl⟩
theorem z_21 : zeroT Tryd.prog 21 [.int .i32 0] := by unfold zeroT; kernel_rfl
theorem ui_21 : Tryd.prog.underlying 21 = some (.int .i32) := by kernel_rfl
theorem p_23 : plainT Tryd.prog 23 := ⟨by kernel_rfl, by kernel_rfl⟩
theorem z_23 : zeroT Tryd.prog 23 [.nilFunc] := by unfold zeroT; kernel_rfl
theorem uf_23 : (match Tryd.prog.underlying 23 with | some (.func ..) => true | _ => false) = true := by kernel_rfl
theorem p_24 : plainT Tryd.prog 24 := ⟨by kernel_rfl, by kernel_rfl⟩
theorem z_24 : zeroT Tryd.prog 24 [.slice none 0 0] := by unfold zeroT; kernel_rfl
theorem sl_24 : SliceT Tryd.prog 24 9 1 16 [.string ⟨#[]⟩] := ⟨by kernel_rfl, by kernel_rfl⟩
theorem p_27 : plainT Tryd.prog 27 := ⟨by kernel_rfl, by kernel_rfl⟩
theorem z_27 : zeroT Tryd.prog 27 [.nilFunc] := by unfold zeroT; kernel_rfl
theorem uf_27 : (match Tryd.prog.underlying 27 with | some (.func ..) => true | _ => false) = true := by kernel_rfl
theorem p_30 : plainT Tryd.prog 30 := ⟨by kernel_rfl, by kernel_rfl⟩
theorem z_30 : zeroT Tryd.prog 30 [.slice none 0 0] := by unfold zeroT; kernel_rfl
theorem sl_30 : SliceT Tryd.prog 30 36 5 56 [.int .i64 0, .int .i64 0, .string ⟨#[]⟩, .string ⟨#[]⟩, .bool false] := ⟨by kernel_rfl, by kernel_rfl⟩
theorem p_31 : plainT Tryd.prog 31 := ⟨by kernel_rfl, by kernel_rfl⟩
theorem z_31 : zeroT Tryd.prog 31 [.slice none 0 0] := by unfold zeroT; kernel_rfl
theorem sl_31 : SliceT Tryd.prog 31 5 1 1 [.int .u8 0] := ⟨by kernel_rfl, by kernel_rfl⟩
theorem p_32 : plainT Tryd.prog 32 := ⟨by kernel_rfl, by kernel_rfl⟩
theorem z_32 : zeroT Tryd.prog 32 [.slice none 0 0] := by unfold zeroT; kernel_rfl
theorem sl_32 : SliceT Tryd.prog 32 45 15 152 [.int .i64 0, .int .i64 0, .int .i64 0, .int .i64 0, .string ⟨#[]⟩, .string ⟨#[]⟩, .bool false, .int .i64 0, .int .i64 0, .int .i64 0, .string ⟨#[]⟩, .string ⟨#[]⟩, .bool false, .int .i64 0, .int .i64 0] := ⟨by kernel_rfl, by kernel_rfl⟩
theorem s_34 : structT Tryd.prog 34 2 := ⟨by kernel_rfl, by kernel_rfl⟩
theorem z_34 : zeroT Tryd.prog 34 [.int .i64 0, .string ⟨#[]⟩] := by unfold zeroT; kernel_rfl
theorem b_34 : BuildT Tryd.prog 34 [(0, 1), (1, 1)] [.int .i64 0, .string ⟨#[]⟩] := ⟨by kernel_rfl, by kernel_rfl, by kernel_rfl, by kernel_rfl⟩
theorem s_36 : structT Tryd.prog 36 5 := ⟨by kernel_rfl, by kernel_rfl⟩
theorem z_36 : zeroT Tryd.prog 36 [.int .i64 0, .int .i64 0, .string ⟨#[]⟩, .string ⟨#[]⟩, .bool false] := by unfold zeroT; kernel_rfl
theorem b_36 : BuildT Tryd.prog 36 [(0, 1), (1, 1), (2, 1), (3, 1), (4, 1)] [.int .i64 0, .int .i64 0, .string ⟨#[]⟩, .string ⟨#[]⟩, .bool false] := ⟨by kernel_rfl, by kernel_rfl, by kernel_rfl, by kernel_rfl⟩
theorem p_37 : plainT Tryd.prog 37 := ⟨by kernel_rfl, by kernel_rfl⟩
theorem z_37 : zeroT Tryd.prog 37 [.int .i64 0] := by unfold zeroT; kernel_rfl
theorem ui_37 : Tryd.prog.underlying 37 = some (.int .i64) := by kernel_rfl
theorem s_39 : structT Tryd.prog 39 3 := ⟨by kernel_rfl, by kernel_rfl⟩
theorem z_39 : zeroT Tryd.prog 39 [.string ⟨#[]⟩, .string ⟨#[]⟩, .bool false] := by unfold zeroT; kernel_rfl
theorem eg_39 : Tryd.prog.eqGuardType Tryd.prog.depth 39 = false := by kernel_rfl
theorem sh_39 : Tryd.prog.stoodInHeld 39 = false := by kernel_rfl
theorem fs_39 : fieldsT Tryd.prog 39 = [("Topic", 9, 0), ("Payload", 9, 1), ("Kept", 4, 2)] := by kernel_rfl
theorem b_39 : BuildT Tryd.prog 39 [(0, 1), (1, 1), (2, 1)] [.string ⟨#[]⟩, .string ⟨#[]⟩, .bool false] := ⟨by kernel_rfl, by kernel_rfl, by kernel_rfl, by kernel_rfl⟩
theorem s_41 : structT Tryd.prog 41 6 := ⟨by kernel_rfl, by kernel_rfl⟩
theorem z_41 : zeroT Tryd.prog 41 [.int .i64 0, .int .i64 0, .int .i64 0, .string ⟨#[]⟩, .string ⟨#[]⟩, .bool false] := by unfold zeroT; kernel_rfl
theorem eg_41 : Tryd.prog.eqGuardType Tryd.prog.depth 41 = false := by kernel_rfl
theorem sh_41 : Tryd.prog.stoodInHeld 41 = false := by kernel_rfl
theorem fs_41 : fieldsT Tryd.prog 41 = [("Error", 37, 0), ("A", 3, 1), ("B", 3, 2), ("Msg", 39, 3)] := by kernel_rfl
theorem b_41 : BuildT Tryd.prog 41 [(0, 1), (1, 1), (2, 1), (3, 3)] [.int .i64 0, .int .i64 0, .int .i64 0, .string ⟨#[]⟩, .string ⟨#[]⟩, .bool false] := ⟨by kernel_rfl, by kernel_rfl, by kernel_rfl, by kernel_rfl⟩
theorem p_43 : plainT Tryd.prog 43 := ⟨by kernel_rfl, by kernel_rfl⟩
theorem z_43 : zeroT Tryd.prog 43 [.nilFunc] := by unfold zeroT; kernel_rfl
theorem uf_43 : (match Tryd.prog.underlying 43 with | some (.func ..) => true | _ => false) = true := by kernel_rfl
theorem s_45 : structT Tryd.prog 45 15 := ⟨by kernel_rfl, by kernel_rfl⟩
theorem z_45 : zeroT Tryd.prog 45 [.int .i64 0, .int .i64 0, .int .i64 0, .int .i64 0, .string ⟨#[]⟩, .string ⟨#[]⟩, .bool false, .int .i64 0, .int .i64 0, .int .i64 0, .string ⟨#[]⟩, .string ⟨#[]⟩, .bool false, .int .i64 0, .int .i64 0] := by unfold zeroT; kernel_rfl
theorem b_45 : BuildT Tryd.prog 45 [(0, 1), (1, 1), (2, 5), (7, 6), (13, 1), (14, 1)] [.int .i64 0, .int .i64 0, .int .i64 0, .int .i64 0, .string ⟨#[]⟩, .string ⟨#[]⟩, .bool false, .int .i64 0, .int .i64 0, .int .i64 0, .string ⟨#[]⟩, .string ⟨#[]⟩, .bool false, .int .i64 0, .int .i64 0] := ⟨by kernel_rfl, by kernel_rfl, by kernel_rfl, by kernel_rfl⟩
theorem p_46 : plainT Tryd.prog 46 := ⟨by kernel_rfl, by kernel_rfl⟩
theorem z_46 : zeroT Tryd.prog 46 [.slice none 0 0] := by unfold zeroT; kernel_rfl
theorem sl_46 : SliceT Tryd.prog 46 3 1 8 [.int .i64 0] := ⟨by kernel_rfl, by kernel_rfl⟩
theorem p_49 : plainT Tryd.prog 49 := ⟨by kernel_rfl, by kernel_rfl⟩
theorem z_49 : zeroT Tryd.prog 49 [.nilFunc] := by unfold zeroT; kernel_rfl
theorem uf_49 : (match Tryd.prog.underlying 49 with | some (.func ..) => true | _ => false) = true := by kernel_rfl
theorem s_51 : structT Tryd.prog 51 4 := ⟨by kernel_rfl, by kernel_rfl⟩
theorem z_51 : zeroT Tryd.prog 51 [.int .i64 0, .string ⟨#[]⟩, .nilFunc, .nilFunc] := by unfold zeroT; kernel_rfl
theorem b_51 : BuildT Tryd.prog 51 [(0, 2), (2, 1), (3, 1)] [.int .i64 0, .string ⟨#[]⟩, .nilFunc, .nilFunc] := ⟨by kernel_rfl, by kernel_rfl, by kernel_rfl, by kernel_rfl⟩
theorem p_61 : plainT Tryd.prog 61 := ⟨by kernel_rfl, by kernel_rfl⟩
theorem z_61 : zeroT Tryd.prog 61 [.nilFunc] := by unfold zeroT; kernel_rfl
theorem uf_61 : (match Tryd.prog.underlying 61 with | some (.func ..) => true | _ => false) = true := by kernel_rfl
theorem p_62 : plainT Tryd.prog 62 := ⟨by kernel_rfl, by kernel_rfl⟩
theorem z_62 : zeroT Tryd.prog 62 [.nilFunc] := by unfold zeroT; kernel_rfl
theorem uf_62 : (match Tryd.prog.underlying 62 with | some (.func ..) => true | _ => false) = true := by kernel_rfl
theorem s_64 : structT Tryd.prog 64 3 := ⟨by kernel_rfl, by kernel_rfl⟩
theorem z_64 : zeroT Tryd.prog 64 [.int .i64 0, .nilFunc, .nilFunc] := by unfold zeroT; kernel_rfl
theorem p_75 : plainT Tryd.prog 75 := ⟨by kernel_rfl, by kernel_rfl⟩
theorem z_75 : zeroT Tryd.prog 75 [.slice none 0 0] := by unfold zeroT; kernel_rfl
theorem sl_75 : SliceT Tryd.prog 75 126 2 24 [.string ⟨#[]⟩, .int .i64 0] := ⟨by kernel_rfl, by kernel_rfl⟩
theorem s_77 : structT Tryd.prog 77 2 := ⟨by kernel_rfl, by kernel_rfl⟩
theorem z_77 : zeroT Tryd.prog 77 [.slice none 0 0, .slice none 0 0] := by unfold zeroT; kernel_rfl
theorem b_77 : BuildT Tryd.prog 77 [(0, 1), (1, 1)] [.slice none 0 0, .slice none 0 0] := ⟨by kernel_rfl, by kernel_rfl, by kernel_rfl, by kernel_rfl⟩
theorem s_79 : structT Tryd.prog 79 3 := ⟨by kernel_rfl, by kernel_rfl⟩
theorem z_79 : zeroT Tryd.prog 79 [.slice none 0 0, .slice none 0 0, .int .i64 0] := by unfold zeroT; kernel_rfl
theorem b_79 : BuildT Tryd.prog 79 [(0, 2), (2, 1)] [.slice none 0 0, .slice none 0 0, .int .i64 0] := ⟨by kernel_rfl, by kernel_rfl, by kernel_rfl, by kernel_rfl⟩
theorem s_81 : structT Tryd.prog 81 4 := ⟨by kernel_rfl, by kernel_rfl⟩
theorem z_81 : zeroT Tryd.prog 81 [.slice none 0 0, .slice none 0 0, .slice none 0 0, .int .i64 0] := by unfold zeroT; kernel_rfl
theorem b_81 : BuildT Tryd.prog 81 [(0, 1), (1, 1), (2, 1), (3, 1)] [.slice none 0 0, .slice none 0 0, .slice none 0 0, .int .i64 0] := ⟨by kernel_rfl, by kernel_rfl, by kernel_rfl, by kernel_rfl⟩
theorem p_86 : plainT Tryd.prog 86 := ⟨by kernel_rfl, by kernel_rfl⟩
theorem z_86 : zeroT Tryd.prog 86 [.slice none 0 0] := by unfold zeroT; kernel_rfl
theorem sl_86 : SliceT Tryd.prog 86 39 3 40 [.string ⟨#[]⟩, .string ⟨#[]⟩, .bool false] := ⟨by kernel_rfl, by kernel_rfl⟩
theorem p_96 : plainT Tryd.prog 96 := ⟨by kernel_rfl, by kernel_rfl⟩
theorem z_96 : zeroT Tryd.prog 96 [.nilFunc] := by unfold zeroT; kernel_rfl
theorem uf_96 : (match Tryd.prog.underlying 96 with | some (.func ..) => true | _ => false) = true := by kernel_rfl
theorem p_98 : plainT Tryd.prog 98 := ⟨by kernel_rfl, by kernel_rfl⟩
theorem z_98 : zeroT Tryd.prog 98 [.nilFunc] := by unfold zeroT; kernel_rfl
theorem uf_98 : (match Tryd.prog.underlying 98 with | some (.func ..) => true | _ => false) = true := by kernel_rfl
theorem p_100 : plainT Tryd.prog 100 := ⟨by kernel_rfl, by kernel_rfl⟩
theorem z_100 : zeroT Tryd.prog 100 [.nilFunc] := by unfold zeroT; kernel_rfl
theorem uf_100 : (match Tryd.prog.underlying 100 with | some (.func ..) => true | _ => false) = true := by kernel_rfl
theorem p_102 : plainT Tryd.prog 102 := ⟨by kernel_rfl, by kernel_rfl⟩
theorem z_102 : zeroT Tryd.prog 102 [.pointer none] := by unfold zeroT; kernel_rfl
theorem p_104 : plainT Tryd.prog 104 := ⟨by kernel_rfl, by kernel_rfl⟩
theorem z_104 : zeroT Tryd.prog 104 [.nilFunc] := by unfold zeroT; kernel_rfl
theorem uf_104 : (match Tryd.prog.underlying 104 with | some (.func ..) => true | _ => false) = true := by kernel_rfl
theorem p_105 : plainT Tryd.prog 105 := ⟨by kernel_rfl, by kernel_rfl⟩
theorem z_105 : zeroT Tryd.prog 105 [.slice none 0 0] := by unfold zeroT; kernel_rfl
theorem sl_105 : SliceT Tryd.prog 105 4 1 1 [.bool false] := ⟨by kernel_rfl, by kernel_rfl⟩
theorem p_106 : plainT Tryd.prog 106 := ⟨by kernel_rfl, by kernel_rfl⟩
theorem z_106 : zeroT Tryd.prog 106 [.map none] := by unfold zeroT; kernel_rfl
theorem s_108 : structT Tryd.prog 108 8 := ⟨by kernel_rfl, by kernel_rfl⟩
theorem z_108 : zeroT Tryd.prog 108 [.int .i64 0, .string ⟨#[]⟩, .nilFunc, .nilFunc, .slice none 0 0, .slice none 0 0, .slice none 0 0, .map none] := by unfold zeroT; kernel_rfl
theorem b_108 : BuildT Tryd.prog 108 [(0, 4), (4, 1), (5, 1), (6, 1), (7, 1)] [.int .i64 0, .string ⟨#[]⟩, .nilFunc, .nilFunc, .slice none 0 0, .slice none 0 0, .slice none 0 0, .map none] := ⟨by kernel_rfl, by kernel_rfl, by kernel_rfl, by kernel_rfl⟩
theorem p_112 : plainT Tryd.prog 112 := ⟨by kernel_rfl, by kernel_rfl⟩
theorem z_112 : zeroT Tryd.prog 112 [.pointer none] := by unfold zeroT; kernel_rfl
theorem p_114 : plainT Tryd.prog 114 := ⟨by kernel_rfl, by kernel_rfl⟩
theorem z_114 : zeroT Tryd.prog 114 [.nilFunc] := by unfold zeroT; kernel_rfl
theorem uf_114 : (match Tryd.prog.underlying 114 with | some (.func ..) => true | _ => false) = true := by kernel_rfl
theorem s_116 : structT Tryd.prog 116 7 := ⟨by kernel_rfl, by kernel_rfl⟩
theorem z_116 : zeroT Tryd.prog 116 [.int .i64 0, .nilFunc, .nilFunc, .slice none 0 0, .slice none 0 0, .slice none 0 0, .map none] := by unfold zeroT; kernel_rfl
theorem b_116 : BuildT Tryd.prog 116 [(0, 3), (3, 1), (4, 1), (5, 1), (6, 1)] [.int .i64 0, .nilFunc, .nilFunc, .slice none 0 0, .slice none 0 0, .slice none 0 0, .map none] := ⟨by kernel_rfl, by kernel_rfl, by kernel_rfl, by kernel_rfl⟩
theorem s_126 : structT Tryd.prog 126 2 := ⟨by kernel_rfl, by kernel_rfl⟩
theorem z_126 : zeroT Tryd.prog 126 [.string ⟨#[]⟩, .int .i64 0] := by unfold zeroT; kernel_rfl
theorem b_126 : BuildT Tryd.prog 126 [(0, 1), (1, 1)] [.string ⟨#[]⟩, .int .i64 0] := ⟨by kernel_rfl, by kernel_rfl, by kernel_rfl, by kernel_rfl⟩
theorem p_147 : plainT Tryd.prog 147 := ⟨by kernel_rfl, by kernel_rfl⟩
theorem z_147 : zeroT Tryd.prog 147 [.nilFunc] := by unfold zeroT; kernel_rfl
theorem uf_147 : (match Tryd.prog.underlying 147 with | some (.func ..) => true | _ => false) = true := by kernel_rfl
theorem p_149 : plainT Tryd.prog 149 := ⟨by kernel_rfl, by kernel_rfl⟩
theorem z_149 : zeroT Tryd.prog 149 [.nilFunc] := by unfold zeroT; kernel_rfl
theorem uf_149 : (match Tryd.prog.underlying 149 with | some (.func ..) => true | _ => false) = true := by kernel_rfl
theorem z_155 : zeroT Tryd.prog 155 [.bool false, .bool false, .bool false, .bool false, .bool false, .bool false, .bool false, .bool false, .bool false, .bool false, .bool false, .bool false, .bool false, .bool false, .bool false, .bool false, .bool false, .bool false, .bool false, .bool false, .bool false, .bool false, .bool false, .bool false, .bool false, .bool false, .bool false, .bool false, .bool false, .bool false, .bool false, .bool false, .bool false, .bool false, .bool false, .bool false, .bool false, .bool false, .bool false, .bool false, .bool false, .bool false, .bool false, .bool false, .bool false, .bool false, .bool false, .bool false, .bool false, .bool false, .bool false, .bool false, .bool false, .bool false, .bool false, .bool false, .bool false, .bool false, .bool false, .bool false, .bool false, .bool false, .bool false, .bool false, .bool false, .bool false, .bool false, .bool false, .bool false, .bool false, .bool false, .bool false, .bool false, .bool false, .bool false, .bool false, .bool false, .bool false, .bool false, .bool false, .bool false, .bool false, .bool false, .bool false, .bool false, .bool false, .bool false, .bool false, .bool false, .bool false, .bool false, .bool false, .bool false, .bool false, .bool false, .bool false, .bool false, .bool false, .bool false, .bool false, .bool false, .bool false, .bool false, .bool false, .bool false, .bool false, .bool false, .bool false, .bool false, .bool false, .bool false, .bool false, .bool false, .bool false, .bool false, .bool false, .bool false, .bool false, .bool false, .bool false, .bool false, .bool false, .bool false, .bool false, .bool false, .bool false, .bool false, .bool false, .bool false, .bool false, .bool false, .bool false, .bool false, .bool false, .bool false, .bool false, .bool false, .bool false, .bool false, .bool false, .bool false, .bool false, .bool false, .bool false, .bool false, .bool false, .bool false, .bool false, .bool false, .bool false, .bool false, .bool false, .bool false, .bool false, .bool false, .bool false, .bool false, .bool false, .bool false, .bool false, .bool false, .bool false, .bool false, .bool false, .bool false, .bool false, .bool false, .bool false, .bool false, .bool false, .bool false, .bool false, .bool false, .bool false, .bool false, .bool false, .bool false, .bool false, .bool false, .bool false, .bool false, .bool false, .bool false, .bool false, .bool false, .bool false, .bool false, .bool false, .bool false, .bool false, .bool false, .bool false, .bool false, .bool false, .bool false, .bool false, .bool false, .bool false, .bool false, .bool false, .bool false, .bool false, .bool false, .bool false, .bool false, .bool false, .bool false, .bool false, .bool false, .bool false, .bool false, .bool false, .bool false, .bool false, .bool false, .bool false, .bool false, .bool false, .bool false, .bool false, .bool false, .bool false, .bool false, .bool false, .bool false, .bool false, .bool false, .bool false, .bool false, .bool false, .bool false, .bool false, .bool false, .bool false, .bool false, .bool false, .bool false, .bool false, .bool false, .bool false, .bool false, .bool false, .bool false, .bool false, .bool false, .bool false, .bool false, .bool false, .bool false, .bool false, .bool false, .bool false, .bool false, .bool false, .bool false, .bool false] := by unfold zeroT; kernel_rfl
theorem p_158 : plainT Tryd.prog 158 := ⟨by kernel_rfl, by kernel_rfl⟩
theorem z_158 : zeroT Tryd.prog 158 [.int .u64 0] := by unfold zeroT; kernel_rfl
theorem ui_158 : Tryd.prog.underlying 158 = some (.int .u64) := by kernel_rfl
theorem p_161 : plainT Tryd.prog 161 := ⟨by kernel_rfl, by kernel_rfl⟩
theorem z_161 : zeroT Tryd.prog 161 [.nilFunc] := by unfold zeroT; kernel_rfl
theorem uf_161 : (match Tryd.prog.underlying 161 with | some (.func ..) => true | _ => false) = true := by kernel_rfl
theorem p_163 : plainT Tryd.prog 163 := ⟨by kernel_rfl, by kernel_rfl⟩
theorem z_163 : zeroT Tryd.prog 163 [.pointer none] := by unfold zeroT; kernel_rfl
theorem z_167 : zeroT Tryd.prog 167 [.int .u8 0, .int .u8 0, .int .u8 0, .int .u8 0, .int .u8 0, .int .u8 0, .int .u8 0, .int .u8 0, .int .u8 0, .int .u8 0, .int .u8 0, .int .u8 0, .int .u8 0, .int .u8 0, .int .u8 0, .int .u8 0, .int .u8 0, .int .u8 0, .int .u8 0, .int .u8 0, .int .u8 0, .int .u8 0, .int .u8 0, .int .u8 0, .int .u8 0, .int .u8 0, .int .u8 0, .int .u8 0, .int .u8 0, .int .u8 0, .int .u8 0, .int .u8 0, .int .u8 0, .int .u8 0, .int .u8 0, .int .u8 0, .int .u8 0, .int .u8 0, .int .u8 0, .int .u8 0, .int .u8 0, .int .u8 0, .int .u8 0, .int .u8 0, .int .u8 0, .int .u8 0, .int .u8 0, .int .u8 0, .int .u8 0, .int .u8 0, .int .u8 0, .int .u8 0, .int .u8 0, .int .u8 0, .int .u8 0, .int .u8 0, .int .u8 0, .int .u8 0, .int .u8 0, .int .u8 0, .int .u8 0, .int .u8 0, .int .u8 0, .int .u8 0, .int .u8 0, .int .u8 0, .int .u8 0, .int .u8 0, .int .u8 0, .int .u8 0, .int .u8 0, .int .u8 0, .int .u8 0, .int .u8 0, .int .u8 0, .int .u8 0, .int .u8 0, .int .u8 0, .int .u8 0, .int .u8 0, .int .u8 0, .int .u8 0, .int .u8 0, .int .u8 0, .int .u8 0, .int .u8 0, .int .u8 0, .int .u8 0, .int .u8 0, .int .u8 0, .int .u8 0, .int .u8 0, .int .u8 0, .int .u8 0, .int .u8 0, .int .u8 0, .int .u8 0, .int .u8 0, .int .u8 0, .int .u8 0, .int .u8 0, .int .u8 0, .int .u8 0, .int .u8 0, .int .u8 0, .int .u8 0, .int .u8 0, .int .u8 0, .int .u8 0, .int .u8 0, .int .u8 0, .int .u8 0, .int .u8 0, .int .u8 0, .int .u8 0, .int .u8 0, .int .u8 0, .int .u8 0, .int .u8 0, .int .u8 0, .int .u8 0, .int .u8 0, .int .u8 0, .int .u8 0, .int .u8 0, .int .u8 0, .int .u8 0, .int .u8 0, .int .u8 0, .int .u8 0, .int .u8 0, .int .u8 0, .int .u8 0, .int .u8 0, .int .u8 0, .int .u8 0, .int .u8 0, .int .u8 0, .int .u8 0, .int .u8 0, .int .u8 0, .int .u8 0, .int .u8 0, .int .u8 0, .int .u8 0, .int .u8 0, .int .u8 0, .int .u8 0, .int .u8 0, .int .u8 0, .int .u8 0, .int .u8 0, .int .u8 0, .int .u8 0, .int .u8 0, .int .u8 0, .int .u8 0, .int .u8 0, .int .u8 0, .int .u8 0, .int .u8 0, .int .u8 0, .int .u8 0, .int .u8 0, .int .u8 0, .int .u8 0, .int .u8 0, .int .u8 0, .int .u8 0, .int .u8 0, .int .u8 0, .int .u8 0, .int .u8 0, .int .u8 0, .int .u8 0, .int .u8 0, .int .u8 0, .int .u8 0, .int .u8 0, .int .u8 0, .int .u8 0, .int .u8 0, .int .u8 0, .int .u8 0, .int .u8 0, .int .u8 0, .int .u8 0, .int .u8 0, .int .u8 0, .int .u8 0, .int .u8 0, .int .u8 0, .int .u8 0, .int .u8 0, .int .u8 0, .int .u8 0, .int .u8 0, .int .u8 0, .int .u8 0, .int .u8 0, .int .u8 0, .int .u8 0, .int .u8 0, .int .u8 0, .int .u8 0, .int .u8 0, .int .u8 0, .int .u8 0, .int .u8 0, .int .u8 0, .int .u8 0, .int .u8 0, .int .u8 0, .int .u8 0, .int .u8 0, .int .u8 0, .int .u8 0, .int .u8 0, .int .u8 0, .int .u8 0, .int .u8 0, .int .u8 0, .int .u8 0, .int .u8 0, .int .u8 0, .int .u8 0, .int .u8 0, .int .u8 0, .int .u8 0, .int .u8 0, .int .u8 0, .int .u8 0, .int .u8 0, .int .u8 0, .int .u8 0, .int .u8 0, .int .u8 0, .int .u8 0, .int .u8 0, .int .u8 0, .int .u8 0, .int .u8 0, .int .u8 0, .int .u8 0, .int .u8 0, .int .u8 0, .int .u8 0, .int .u8 0, .int .u8 0, .int .u8 0, .int .u8 0, .int .u8 0, .int .u8 0, .int .u8 0, .int .u8 0, .int .u8 0] := by unfold zeroT; kernel_rfl
theorem s_169 : structT Tryd.prog 169 2 := ⟨by kernel_rfl, by kernel_rfl⟩
theorem z_169 : zeroT Tryd.prog 169 [.int .u8 0, .int .u8 0] := by unfold zeroT; kernel_rfl
theorem b_169 : BuildT Tryd.prog 169 [(0, 1), (1, 1)] [.int .u8 0, .int .u8 0] := ⟨by kernel_rfl, by kernel_rfl, by kernel_rfl, by kernel_rfl⟩
theorem z_170 : zeroT Tryd.prog 170 [.int .u8 0, .int .u8 0, .int .u8 0, .int .u8 0, .int .u8 0, .int .u8 0, .int .u8 0, .int .u8 0, .int .u8 0, .int .u8 0, .int .u8 0, .int .u8 0, .int .u8 0, .int .u8 0, .int .u8 0, .int .u8 0, .int .u8 0, .int .u8 0, .int .u8 0, .int .u8 0, .int .u8 0, .int .u8 0, .int .u8 0, .int .u8 0, .int .u8 0, .int .u8 0, .int .u8 0, .int .u8 0, .int .u8 0, .int .u8 0, .int .u8 0, .int .u8 0] := by unfold zeroT; kernel_rfl
theorem p_172 : plainT Tryd.prog 172 := ⟨by kernel_rfl, by kernel_rfl⟩
theorem z_172 : zeroT Tryd.prog 172 [.int .u32 0] := by unfold zeroT; kernel_rfl
theorem ui_172 : Tryd.prog.underlying 172 = some (.int .u32) := by kernel_rfl
theorem z_175 : zeroT Tryd.prog 175 [.int .u8 0, .int .u8 0, .int .u8 0, .int .u8 0, .int .u8 0, .int .u8 0, .int .u8 0, .int .u8 0, .int .u8 0, .int .u8 0, .int .u8 0, .int .u8 0, .int .u8 0, .int .u8 0, .int .u8 0, .int .u8 0, .int .u8 0, .int .u8 0, .int .u8 0, .int .u8 0, .int .u8 0, .int .u8 0, .int .u8 0, .int .u8 0] := by unfold zeroT; kernel_rfl
theorem p_176 : plainT Tryd.prog 176 := ⟨by kernel_rfl, by kernel_rfl⟩
theorem z_176 : zeroT Tryd.prog 176 [.int .u64 0] := by unfold zeroT; kernel_rfl
theorem ui_176 : Tryd.prog.underlying 176 = some (.int .u64) := by kernel_rfl
theorem z_184 : zeroT Tryd.prog 184 [.int .u64 0, .int .u64 0, .int .u64 0, .int .u64 0, .int .u64 0, .int .u64 0, .int .u64 0, .int .u64 0, .int .u64 0, .int .u64 0, .int .u64 0, .int .u64 0, .int .u64 0, .int .u64 0, .int .u64 0, .int .u64 0, .int .u64 0, .int .u64 0, .int .u64 0, .int .u64 0] := by unfold zeroT; kernel_rfl
theorem z_185 : zeroT Tryd.prog 185 [.int .u8 0, .int .u8 0, .int .u8 0, .int .u8 0, .int .u8 0, .int .u8 0, .int .u8 0, .int .u8 0, .int .u8 0, .int .u8 0, .int .u8 0, .int .u8 0, .int .u8 0, .int .u8 0, .int .u8 0, .int .u8 0, .int .u8 0, .int .u8 0, .int .u8 0, .int .u8 0, .int .u8 0, .int .u8 0, .int .u8 0, .int .u8 0, .int .u8 0, .int .u8 0, .int .u8 0, .int .u8 0, .int .u8 0, .int .u8 0, .int .u8 0, .int .u8 0, .int .u8 0, .int .u8 0, .int .u8 0, .int .u8 0, .int .u8 0, .int .u8 0, .int .u8 0, .int .u8 0, .int .u8 0, .int .u8 0, .int .u8 0, .int .u8 0, .int .u8 0, .int .u8 0, .int .u8 0, .int .u8 0, .int .u8 0, .int .u8 0, .int .u8 0, .int .u8 0, .int .u8 0, .int .u8 0, .int .u8 0, .int .u8 0, .int .u8 0, .int .u8 0, .int .u8 0, .int .u8 0, .int .u8 0, .int .u8 0, .int .u8 0, .int .u8 0, .int .u8 0] := by unfold zeroT; kernel_rfl
theorem z_188 : zeroT Tryd.prog 188 [.int .u8 0, .int .u8 0, .int .u8 0, .int .u8 0, .int .u8 0, .int .u8 0, .int .u8 0, .int .u8 0, .int .u8 0, .int .u8 0, .int .u8 0, .int .u8 0, .int .u8 0, .int .u8 0, .int .u8 0, .int .u8 0, .int .u8 0, .int .u8 0, .int .u8 0, .int .u8 0, .int .u8 0, .int .u8 0, .int .u8 0, .int .u8 0, .int .u8 0, .int .u8 0, .int .u8 0, .int .u8 0, .int .u8 0, .int .u8 0, .int .u8 0, .int .u8 0] := by unfold zeroT; kernel_rfl
theorem z_189 : zeroT Tryd.prog 189 [.int .u8 0, .int .u8 0, .int .u8 0, .int .u8 0, .int .u8 0, .int .u8 0, .int .u8 0, .int .u8 0, .int .u8 0, .int .u8 0, .int .u8 0, .int .u8 0, .int .u8 0, .int .u8 0, .int .u8 0, .int .u8 0, .int .u8 0, .int .u8 0, .int .u8 0, .int .u8 0, .int .u8 0, .int .u8 0, .int .u8 0, .int .u8 0, .int .u8 0, .int .u8 0, .int .u8 0, .int .u8 0, .int .u8 0, .int .u8 0, .int .u8 0, .int .u8 0, .int .u8 0, .int .u8 0, .int .u8 0, .int .u8 0, .int .u8 0, .int .u8 0, .int .u8 0, .int .u8 0, .int .u8 0, .int .u8 0, .int .u8 0, .int .u8 0, .int .u8 0, .int .u8 0, .int .u8 0, .int .u8 0, .int .u8 0, .int .u8 0, .int .u8 0, .int .u8 0, .int .u8 0, .int .u8 0, .int .u8 0, .int .u8 0, .int .u8 0, .int .u8 0, .int .u8 0, .int .u8 0, .int .u8 0, .int .u8 0, .int .u8 0, .int .u8 0] := by unfold zeroT; kernel_rfl
theorem f_34_0 : FieldT Tryd.prog 34 0 0 3 1 := ⟨by kernel_rfl, by kernel_rfl, by kernel_rfl⟩
theorem f_34_1 : FieldT Tryd.prog 34 1 1 9 1 := ⟨by kernel_rfl, by kernel_rfl, by kernel_rfl⟩
theorem f_36_0 : FieldT Tryd.prog 36 0 0 3 1 := ⟨by kernel_rfl, by kernel_rfl, by kernel_rfl⟩
theorem f_36_1 : FieldT Tryd.prog 36 1 1 3 1 := ⟨by kernel_rfl, by kernel_rfl, by kernel_rfl⟩
theorem f_36_3 : FieldT Tryd.prog 36 3 3 9 1 := ⟨by kernel_rfl, by kernel_rfl, by kernel_rfl⟩
theorem f_39_0 : FieldT Tryd.prog 39 0 0 9 1 := ⟨by kernel_rfl, by kernel_rfl, by kernel_rfl⟩
theorem f_39_1 : FieldT Tryd.prog 39 1 1 9 1 := ⟨by kernel_rfl, by kernel_rfl, by kernel_rfl⟩
theorem f_39_2 : FieldT Tryd.prog 39 2 2 4 1 := ⟨by kernel_rfl, by kernel_rfl, by kernel_rfl⟩
theorem f_45_0 : FieldT Tryd.prog 45 0 0 3 1 := ⟨by kernel_rfl, by kernel_rfl, by kernel_rfl⟩
theorem f_45_1 : FieldT Tryd.prog 45 1 1 3 1 := ⟨by kernel_rfl, by kernel_rfl, by kernel_rfl⟩
theorem f_45_2 : FieldT Tryd.prog 45 2 2 36 5 := ⟨by kernel_rfl, by kernel_rfl, by kernel_rfl⟩
theorem f_45_3 : FieldT Tryd.prog 45 3 7 41 6 := ⟨by kernel_rfl, by kernel_rfl, by kernel_rfl⟩
theorem f_45_4 : FieldT Tryd.prog 45 4 13 3 1 := ⟨by kernel_rfl, by kernel_rfl, by kernel_rfl⟩
theorem f_45_5 : FieldT Tryd.prog 45 5 14 3 1 := ⟨by kernel_rfl, by kernel_rfl, by kernel_rfl⟩
theorem f_51_0 : FieldT Tryd.prog 51 0 0 34 2 := ⟨by kernel_rfl, by kernel_rfl, by kernel_rfl⟩
theorem f_51_1 : FieldT Tryd.prog 51 1 2 43 1 := ⟨by kernel_rfl, by kernel_rfl, by kernel_rfl⟩
theorem f_51_2 : FieldT Tryd.prog 51 2 3 49 1 := ⟨by kernel_rfl, by kernel_rfl, by kernel_rfl⟩
theorem f_64_0 : FieldT Tryd.prog 64 0 0 3 1 := ⟨by kernel_rfl, by kernel_rfl, by kernel_rfl⟩
theorem f_64_1 : FieldT Tryd.prog 64 1 1 61 1 := ⟨by kernel_rfl, by kernel_rfl, by kernel_rfl⟩
theorem f_64_2 : FieldT Tryd.prog 64 2 2 62 1 := ⟨by kernel_rfl, by kernel_rfl, by kernel_rfl⟩
theorem f_77_0 : FieldT Tryd.prog 77 0 0 24 1 := ⟨by kernel_rfl, by kernel_rfl, by kernel_rfl⟩
theorem f_77_1 : FieldT Tryd.prog 77 1 1 75 1 := ⟨by kernel_rfl, by kernel_rfl, by kernel_rfl⟩
theorem f_79_0 : FieldT Tryd.prog 79 0 0 77 2 := ⟨by kernel_rfl, by kernel_rfl, by kernel_rfl⟩
theorem f_79_1 : FieldT Tryd.prog 79 1 2 3 1 := ⟨by kernel_rfl, by kernel_rfl, by kernel_rfl⟩
theorem f_81_0 : FieldT Tryd.prog 81 0 0 24 1 := ⟨by kernel_rfl, by kernel_rfl, by kernel_rfl⟩
theorem f_81_1 : FieldT Tryd.prog 81 1 1 24 1 := ⟨by kernel_rfl, by kernel_rfl, by kernel_rfl⟩
theorem f_81_2 : FieldT Tryd.prog 81 2 2 46 1 := ⟨by kernel_rfl, by kernel_rfl, by kernel_rfl⟩
theorem f_81_3 : FieldT Tryd.prog 81 3 3 3 1 := ⟨by kernel_rfl, by kernel_rfl, by kernel_rfl⟩
theorem f_108_0 : FieldT Tryd.prog 108 0 0 51 4 := ⟨by kernel_rfl, by kernel_rfl, by kernel_rfl⟩
theorem f_108_1 : FieldT Tryd.prog 108 1 4 32 1 := ⟨by kernel_rfl, by kernel_rfl, by kernel_rfl⟩
theorem f_108_2 : FieldT Tryd.prog 108 2 5 105 1 := ⟨by kernel_rfl, by kernel_rfl, by kernel_rfl⟩
theorem f_108_3 : FieldT Tryd.prog 108 3 6 46 1 := ⟨by kernel_rfl, by kernel_rfl, by kernel_rfl⟩
theorem f_108_4 : FieldT Tryd.prog 108 4 7 106 1 := ⟨by kernel_rfl, by kernel_rfl, by kernel_rfl⟩
theorem f_116_0 : FieldT Tryd.prog 116 0 0 64 3 := ⟨by kernel_rfl, by kernel_rfl, by kernel_rfl⟩
theorem f_116_1 : FieldT Tryd.prog 116 1 3 32 1 := ⟨by kernel_rfl, by kernel_rfl, by kernel_rfl⟩
theorem f_116_2 : FieldT Tryd.prog 116 2 4 105 1 := ⟨by kernel_rfl, by kernel_rfl, by kernel_rfl⟩
theorem f_116_3 : FieldT Tryd.prog 116 3 5 46 1 := ⟨by kernel_rfl, by kernel_rfl, by kernel_rfl⟩
theorem f_116_4 : FieldT Tryd.prog 116 4 6 106 1 := ⟨by kernel_rfl, by kernel_rfl, by kernel_rfl⟩
theorem f_126_0 : FieldT Tryd.prog 126 0 0 9 1 := ⟨by kernel_rfl, by kernel_rfl, by kernel_rfl⟩
theorem f_126_1 : FieldT Tryd.prog 126 1 1 3 1 := ⟨by kernel_rfl, by kernel_rfl, by kernel_rfl⟩
theorem f_169_0 : FieldT Tryd.prog 169 0 0 5 1 := ⟨by kernel_rfl, by kernel_rfl, by kernel_rfl⟩
theorem f_169_1 : FieldT Tryd.prog 169 1 1 5 1 := ⟨by kernel_rfl, by kernel_rfl, by kernel_rfl⟩
theorem e_2 : entersB Tryd.prog 2 = true := by kernel_rfl
theorem e_3 : entersB Tryd.prog 3 = true := by kernel_rfl
theorem e_4 : entersB Tryd.prog 4 = true := by kernel_rfl
theorem e_5 : entersB Tryd.prog 5 = true := by kernel_rfl
theorem e_6 : entersB Tryd.prog 6 = true := by kernel_rfl
theorem e_7 : entersB Tryd.prog 7 = true := by kernel_rfl
theorem e_8 : entersB Tryd.prog 8 = true := by kernel_rfl
theorem e_9 : entersB Tryd.prog 9 = true := by kernel_rfl
theorem e_10 : entersB Tryd.prog 10 = true := by kernel_rfl
theorem e_11 : entersB Tryd.prog 11 = true := by kernel_rfl
theorem e_12 : entersB Tryd.prog 12 = true := by kernel_rfl
theorem e_13 : entersB Tryd.prog 13 = true := by kernel_rfl
theorem e_14 : entersB Tryd.prog 14 = true := by kernel_rfl
theorem e_15 : entersB Tryd.prog 15 = true := by kernel_rfl
theorem e_16 : entersB Tryd.prog 16 = true := by kernel_rfl
theorem e_17 : entersB Tryd.prog 17 = true := by kernel_rfl
theorem e_18 : entersB Tryd.prog 18 = true := by kernel_rfl
theorem e_19 : entersB Tryd.prog 19 = true := by kernel_rfl
theorem e_20 : entersB Tryd.prog 20 = true := by kernel_rfl
theorem e_21 : entersB Tryd.prog 21 = true := by kernel_rfl
theorem e_22 : entersB Tryd.prog 22 = true := by kernel_rfl
theorem e_23 : entersB Tryd.prog 23 = true := by kernel_rfl
theorem e_24 : entersB Tryd.prog 24 = true := by kernel_rfl
theorem e_25 : entersB Tryd.prog 25 = true := by kernel_rfl
theorem e_26 : entersB Tryd.prog 26 = true := by kernel_rfl
theorem e_27 : entersB Tryd.prog 27 = true := by kernel_rfl
theorem e_28 : entersB Tryd.prog 28 = true := by kernel_rfl
theorem e_29 : entersB Tryd.prog 29 = true := by kernel_rfl
theorem e_30 : entersB Tryd.prog 30 = true := by kernel_rfl
theorem e_31 : entersB Tryd.prog 31 = true := by kernel_rfl
theorem e_32 : entersB Tryd.prog 32 = true := by kernel_rfl
theorem e_33 : entersB Tryd.prog 33 = true := by kernel_rfl
theorem e_34 : entersB Tryd.prog 34 = true := by kernel_rfl
theorem e_35 : entersB Tryd.prog 35 = true := by kernel_rfl
theorem e_36 : entersB Tryd.prog 36 = true := by kernel_rfl
theorem e_37 : entersB Tryd.prog 37 = true := by kernel_rfl
theorem e_38 : entersB Tryd.prog 38 = true := by kernel_rfl
theorem e_39 : entersB Tryd.prog 39 = true := by kernel_rfl
theorem e_40 : entersB Tryd.prog 40 = true := by kernel_rfl
theorem e_41 : entersB Tryd.prog 41 = true := by kernel_rfl
theorem e_42 : entersB Tryd.prog 42 = true := by kernel_rfl
theorem e_43 : entersB Tryd.prog 43 = true := by kernel_rfl
theorem e_44 : entersB Tryd.prog 44 = true := by kernel_rfl
theorem e_45 : entersB Tryd.prog 45 = true := by kernel_rfl
theorem e_46 : entersB Tryd.prog 46 = true := by kernel_rfl
theorem e_47 : entersB Tryd.prog 47 = true := by kernel_rfl
theorem e_48 : entersB Tryd.prog 48 = true := by kernel_rfl
theorem e_49 : entersB Tryd.prog 49 = true := by kernel_rfl
theorem e_50 : entersB Tryd.prog 50 = true := by kernel_rfl
theorem e_51 : entersB Tryd.prog 51 = true := by kernel_rfl
theorem e_52 : entersB Tryd.prog 52 = true := by kernel_rfl
theorem e_53 : entersB Tryd.prog 53 = true := by kernel_rfl
theorem e_54 : entersB Tryd.prog 54 = true := by kernel_rfl
theorem e_55 : entersB Tryd.prog 55 = true := by kernel_rfl
theorem e_56 : entersB Tryd.prog 56 = true := by kernel_rfl
theorem e_57 : entersB Tryd.prog 57 = true := by kernel_rfl
theorem e_58 : entersB Tryd.prog 58 = true := by kernel_rfl
theorem e_59 : entersB Tryd.prog 59 = true := by kernel_rfl
theorem e_60 : entersB Tryd.prog 60 = true := by kernel_rfl
theorem e_61 : entersB Tryd.prog 61 = true := by kernel_rfl
theorem e_62 : entersB Tryd.prog 62 = true := by kernel_rfl
theorem e_63 : entersB Tryd.prog 63 = true := by kernel_rfl
theorem e_64 : entersB Tryd.prog 64 = true := by kernel_rfl
theorem e_65 : entersB Tryd.prog 65 = true := by kernel_rfl
theorem e_66 : entersB Tryd.prog 66 = true := by kernel_rfl
theorem e_67 : entersB Tryd.prog 67 = true := by kernel_rfl
theorem e_68 : entersB Tryd.prog 68 = true := by kernel_rfl
theorem e_69 : entersB Tryd.prog 69 = true := by kernel_rfl
theorem e_70 : entersB Tryd.prog 70 = true := by kernel_rfl
theorem e_71 : entersB Tryd.prog 71 = true := by kernel_rfl
theorem e_72 : entersB Tryd.prog 72 = true := by kernel_rfl
theorem e_73 : entersB Tryd.prog 73 = true := by kernel_rfl
theorem e_74 : entersB Tryd.prog 74 = true := by kernel_rfl
theorem e_75 : entersB Tryd.prog 75 = true := by kernel_rfl
theorem e_76 : entersB Tryd.prog 76 = true := by kernel_rfl
theorem e_77 : entersB Tryd.prog 77 = true := by kernel_rfl
theorem e_78 : entersB Tryd.prog 78 = true := by kernel_rfl
theorem e_79 : entersB Tryd.prog 79 = true := by kernel_rfl
theorem e_80 : entersB Tryd.prog 80 = true := by kernel_rfl
theorem e_81 : entersB Tryd.prog 81 = true := by kernel_rfl
theorem e_82 : entersB Tryd.prog 82 = true := by kernel_rfl
theorem e_83 : entersB Tryd.prog 83 = true := by kernel_rfl
theorem e_84 : entersB Tryd.prog 84 = true := by kernel_rfl
theorem e_85 : entersB Tryd.prog 85 = true := by kernel_rfl
theorem e_86 : entersB Tryd.prog 86 = true := by kernel_rfl
theorem e_87 : entersB Tryd.prog 87 = true := by kernel_rfl
theorem e_88 : entersB Tryd.prog 88 = true := by kernel_rfl
theorem e_89 : entersB Tryd.prog 89 = true := by kernel_rfl
theorem e_90 : entersB Tryd.prog 90 = true := by kernel_rfl
theorem e_91 : entersB Tryd.prog 91 = true := by kernel_rfl
theorem e_92 : entersB Tryd.prog 92 = true := by kernel_rfl
theorem e_93 : entersB Tryd.prog 93 = true := by kernel_rfl
theorem e_94 : entersB Tryd.prog 94 = true := by kernel_rfl
theorem e_95 : entersB Tryd.prog 95 = true := by kernel_rfl
theorem e_96 : entersB Tryd.prog 96 = true := by kernel_rfl
theorem e_97 : entersB Tryd.prog 97 = true := by kernel_rfl
theorem e_98 : entersB Tryd.prog 98 = true := by kernel_rfl
theorem e_99 : entersB Tryd.prog 99 = true := by kernel_rfl
theorem e_100 : entersB Tryd.prog 100 = true := by kernel_rfl
theorem e_101 : entersB Tryd.prog 101 = true := by kernel_rfl
theorem e_102 : entersB Tryd.prog 102 = true := by kernel_rfl
theorem e_103 : entersB Tryd.prog 103 = true := by kernel_rfl
theorem e_104 : entersB Tryd.prog 104 = true := by kernel_rfl
theorem e_105 : entersB Tryd.prog 105 = true := by kernel_rfl
theorem e_106 : entersB Tryd.prog 106 = true := by kernel_rfl
theorem e_107 : entersB Tryd.prog 107 = true := by kernel_rfl
theorem e_109 : entersB Tryd.prog 109 = true := by kernel_rfl
theorem e_110 : entersB Tryd.prog 110 = true := by kernel_rfl
theorem e_111 : entersB Tryd.prog 111 = true := by kernel_rfl
theorem e_112 : entersB Tryd.prog 112 = true := by kernel_rfl
theorem e_113 : entersB Tryd.prog 113 = true := by kernel_rfl
theorem e_114 : entersB Tryd.prog 114 = true := by kernel_rfl
theorem e_115 : entersB Tryd.prog 115 = true := by kernel_rfl
theorem e_116 : entersB Tryd.prog 116 = true := by kernel_rfl
theorem e_117 : entersB Tryd.prog 117 = true := by kernel_rfl
theorem e_118 : entersB Tryd.prog 118 = true := by kernel_rfl
theorem e_119 : entersB Tryd.prog 119 = true := by kernel_rfl
theorem e_120 : entersB Tryd.prog 120 = true := by kernel_rfl
theorem e_121 : entersB Tryd.prog 121 = true := by kernel_rfl
theorem e_122 : entersB Tryd.prog 122 = true := by kernel_rfl
theorem e_123 : entersB Tryd.prog 123 = true := by kernel_rfl
theorem e_124 : entersB Tryd.prog 124 = true := by kernel_rfl
theorem e_125 : entersB Tryd.prog 125 = true := by kernel_rfl
theorem e_126 : entersB Tryd.prog 126 = true := by kernel_rfl
theorem e_127 : entersB Tryd.prog 127 = true := by kernel_rfl
theorem e_128 : entersB Tryd.prog 128 = true := by kernel_rfl
theorem e_129 : entersB Tryd.prog 129 = true := by kernel_rfl
theorem e_130 : entersB Tryd.prog 130 = true := by kernel_rfl
theorem e_131 : entersB Tryd.prog 131 = true := by kernel_rfl
theorem e_132 : entersB Tryd.prog 132 = true := by kernel_rfl
theorem e_133 : entersB Tryd.prog 133 = true := by kernel_rfl
theorem e_134 : entersB Tryd.prog 134 = true := by kernel_rfl
theorem e_135 : entersB Tryd.prog 135 = true := by kernel_rfl
theorem e_136 : entersB Tryd.prog 136 = true := by kernel_rfl
theorem e_137 : entersB Tryd.prog 137 = true := by kernel_rfl
theorem e_139 : entersB Tryd.prog 139 = true := by kernel_rfl
theorem e_140 : entersB Tryd.prog 140 = true := by kernel_rfl
theorem e_142 : entersB Tryd.prog 142 = true := by kernel_rfl
theorem e_143 : entersB Tryd.prog 143 = true := by kernel_rfl
theorem e_145 : entersB Tryd.prog 145 = true := by kernel_rfl
theorem e_147 : entersB Tryd.prog 147 = true := by kernel_rfl
theorem e_148 : entersB Tryd.prog 148 = true := by kernel_rfl
theorem e_149 : entersB Tryd.prog 149 = true := by kernel_rfl
theorem e_150 : entersB Tryd.prog 150 = true := by kernel_rfl
theorem e_151 : entersB Tryd.prog 151 = true := by kernel_rfl
theorem e_152 : entersB Tryd.prog 152 = true := by kernel_rfl
theorem e_153 : entersB Tryd.prog 153 = true := by kernel_rfl
theorem e_154 : entersB Tryd.prog 154 = true := by kernel_rfl
theorem e_155 : entersB Tryd.prog 155 = true := by kernel_rfl
theorem e_156 : entersB Tryd.prog 156 = true := by kernel_rfl
theorem e_157 : entersB Tryd.prog 157 = true := by kernel_rfl
theorem e_158 : entersB Tryd.prog 158 = true := by kernel_rfl
theorem e_159 : entersB Tryd.prog 159 = true := by kernel_rfl
theorem e_160 : entersB Tryd.prog 160 = true := by kernel_rfl
theorem e_161 : entersB Tryd.prog 161 = true := by kernel_rfl
theorem e_162 : entersB Tryd.prog 162 = true := by kernel_rfl
theorem e_163 : entersB Tryd.prog 163 = true := by kernel_rfl
theorem e_164 : entersB Tryd.prog 164 = true := by kernel_rfl
theorem e_189 : entersB Tryd.prog 189 = true := by kernel_rfl
end Go.Proofs.YtfdfphaiefbflaaDoorC
