/- The types of this translation, in the calculus of YthcclgoidchkdaaDoorCoreA: each fact off the tables, by the kernel. -/
import Derived.Test.YthcclgoidchkdaaDoorCoreL
import Derived.Test.YthcclgoidchkdaaDoorProg
set_option linter.unusedVariables false
namespace Go.Proofs.YthcclgoidchkdaaDoorC
open Go.RowKit
theorem mixed : Tryd.prog.follows .mixedOrders = true := by kernel_rfl
theorem p_0 : plainT Tryd.prog 0 := ⟨by kernel_rfl, by kernel_rfl⟩
theorem p_1 : plainT Tryd.prog 1 := ⟨by kernel_rfl, by kernel_rfl⟩
theorem z_1 : zeroT Tryd.prog 1 [.nilFunc] := by unfold zeroT; kernel_rfl
theorem uf_1 : (match Tryd.prog.underlying 1 with | some (.func ..) => true | _ => false) = true := by kernel_rfl
theorem p_2 : plainT Tryd.prog 2 := ⟨by kernel_rfl, by kernel_rfl⟩
theorem z_2 : zeroT Tryd.prog 2 [.int .i64 0] := by unfold zeroT; kernel_rfl
theorem ui_2 : Tryd.prog.underlying 2 = some (.int .i64) := by kernel_rfl
theorem p_3 : plainT Tryd.prog 3 := ⟨by kernel_rfl, by kernel_rfl⟩
theorem z_3 : zeroT Tryd.prog 3 [.int .i64 0] := by unfold zeroT; kernel_rfl
theorem ui_3 : Tryd.prog.underlying 3 = some (.int .i64) := by kernel_rfl
theorem p_4 : plainT Tryd.prog 4 := ⟨by kernel_rfl, by kernel_rfl⟩
theorem z_4 : zeroT Tryd.prog 4 [.bool false] := by unfold zeroT; kernel_rfl
theorem ub_4 : Tryd.prog.underlying 4 = some .bool := by kernel_rfl
theorem p_5 : plainT Tryd.prog 5 := ⟨by kernel_rfl, by kernel_rfl⟩
theorem z_5 : zeroT Tryd.prog 5 [.int .u8 0] := by unfold zeroT; kernel_rfl
theorem ui_5 : Tryd.prog.underlying 5 = some (.int .u8) := by kernel_rfl
theorem p_9 : plainT Tryd.prog 9 := ⟨by kernel_rfl, by kernel_rfl⟩
theorem z_9 : zeroT Tryd.prog 9 [.string ⟨#[]⟩] := by unfold zeroT; kernel_rfl
theorem us_9 : Tryd.prog.underlying 9 = some .string := by kernel_rfl
theorem p_21 : plainT Tryd.prog 21 := ⟨by kernel_rfl, by kernel_rfl⟩
theorem z_21 : zeroT Tryd.prog 21 [.int .i32 0] := by unfold zeroT; kernel_rfl
theorem ui_21 : Tryd.prog.underlying 21 = some (.int .i32) := by kernel_rfl
theorem p_22 : plainT Tryd.prog 22 := ⟨by kernel_rfl, by kernel_rfl⟩
theorem z_22 : zeroT Tryd.prog 22 [.slice none 0 0] := by unfold zeroT; kernel_rfl
theorem sl_22 : SliceT Tryd.prog 22 29 5 56 [.int .i64 0, .int .i64 0, .string ⟨#[]⟩, .string ⟨#[]⟩, .bool false] := ⟨by kernel_rfl, by kernel_rfl⟩
theorem p_23 : plainT Tryd.prog 23 := ⟨by kernel_rfl, by kernel_rfl⟩
theorem z_23 : zeroT Tryd.prog 23 [.slice none 0 0] := by unfold zeroT; kernel_rfl
theorem sl_23 : SliceT Tryd.prog 23 5 1 1 [.int .u8 0] := ⟨by kernel_rfl, by kernel_rfl⟩
theorem p_25 : plainT Tryd.prog 25 := ⟨by kernel_rfl, by kernel_rfl⟩
theorem z_25 : zeroT Tryd.prog 25 [.slice none 0 0] := by unfold zeroT; kernel_rfl
theorem sl_25 : SliceT Tryd.prog 25 38 15 152 [.int .i64 0, .int .i64 0, .int .i64 0, .int .i64 0, .string ⟨#[]⟩, .string ⟨#[]⟩, .bool false, .int .i64 0, .int .i64 0, .int .i64 0, .string ⟨#[]⟩, .string ⟨#[]⟩, .bool false, .int .i64 0, .int .i64 0] := ⟨by kernel_rfl, by kernel_rfl⟩
theorem s_27 : structT Tryd.prog 27 2 := ⟨by kernel_rfl, by kernel_rfl⟩
theorem z_27 : zeroT Tryd.prog 27 [.int .i64 0, .string ⟨#[]⟩] := by unfold zeroT; kernel_rfl
theorem b_27 : BuildT Tryd.prog 27 [(0, 1), (1, 1)] [.int .i64 0, .string ⟨#[]⟩] := ⟨by kernel_rfl, by kernel_rfl, by kernel_rfl, by kernel_rfl⟩
theorem s_29 : structT Tryd.prog 29 5 := ⟨by kernel_rfl, by kernel_rfl⟩
theorem z_29 : zeroT Tryd.prog 29 [.int .i64 0, .int .i64 0, .string ⟨#[]⟩, .string ⟨#[]⟩, .bool false] := by unfold zeroT; kernel_rfl
theorem eg_29 : Tryd.prog.eqGuardType Tryd.prog.depth 29 = false := by kernel_rfl
theorem sh_29 : Tryd.prog.stoodInHeld 29 = false := by kernel_rfl
theorem fs_29 : fieldsT Tryd.prog 29 = [("Kind", 3, 0), ("Sub", 3, 1), ("Text", 9, 2), ("Payload", 9, 3), ("Keep", 4, 4)] := by kernel_rfl
theorem b_29 : BuildT Tryd.prog 29 [(0, 1), (1, 1), (2, 1), (3, 1), (4, 1)] [.int .i64 0, .int .i64 0, .string ⟨#[]⟩, .string ⟨#[]⟩, .bool false] := ⟨by kernel_rfl, by kernel_rfl, by kernel_rfl, by kernel_rfl⟩
theorem p_30 : plainT Tryd.prog 30 := ⟨by kernel_rfl, by kernel_rfl⟩
theorem z_30 : zeroT Tryd.prog 30 [.int .i64 0] := by unfold zeroT; kernel_rfl
theorem ui_30 : Tryd.prog.underlying 30 = some (.int .i64) := by kernel_rfl
theorem s_32 : structT Tryd.prog 32 3 := ⟨by kernel_rfl, by kernel_rfl⟩
theorem z_32 : zeroT Tryd.prog 32 [.string ⟨#[]⟩, .string ⟨#[]⟩, .bool false] := by unfold zeroT; kernel_rfl
theorem eg_32 : Tryd.prog.eqGuardType Tryd.prog.depth 32 = false := by kernel_rfl
theorem sh_32 : Tryd.prog.stoodInHeld 32 = false := by kernel_rfl
theorem fs_32 : fieldsT Tryd.prog 32 = [("Topic", 9, 0), ("Payload", 9, 1), ("Kept", 4, 2)] := by kernel_rfl
theorem b_32 : BuildT Tryd.prog 32 [(0, 1), (1, 1), (2, 1)] [.string ⟨#[]⟩, .string ⟨#[]⟩, .bool false] := ⟨by kernel_rfl, by kernel_rfl, by kernel_rfl, by kernel_rfl⟩
theorem s_34 : structT Tryd.prog 34 6 := ⟨by kernel_rfl, by kernel_rfl⟩
theorem z_34 : zeroT Tryd.prog 34 [.int .i64 0, .int .i64 0, .int .i64 0, .string ⟨#[]⟩, .string ⟨#[]⟩, .bool false] := by unfold zeroT; kernel_rfl
theorem eg_34 : Tryd.prog.eqGuardType Tryd.prog.depth 34 = false := by kernel_rfl
theorem sh_34 : Tryd.prog.stoodInHeld 34 = false := by kernel_rfl
theorem fs_34 : fieldsT Tryd.prog 34 = [("Error", 30, 0), ("A", 3, 1), ("B", 3, 2), ("Msg", 32, 3)] := by kernel_rfl
theorem b_34 : BuildT Tryd.prog 34 [(0, 1), (1, 1), (2, 1), (3, 3)] [.int .i64 0, .int .i64 0, .int .i64 0, .string ⟨#[]⟩, .string ⟨#[]⟩, .bool false] := ⟨by kernel_rfl, by kernel_rfl, by kernel_rfl, by kernel_rfl⟩
theorem p_36 : plainT Tryd.prog 36 := ⟨by kernel_rfl, by kernel_rfl⟩
theorem z_36 : zeroT Tryd.prog 36 [.nilFunc] := by unfold zeroT; kernel_rfl
theorem uf_36 : (match Tryd.prog.underlying 36 with | some (.func ..) => true | _ => false) = true := by kernel_rfl
theorem s_38 : structT Tryd.prog 38 15 := ⟨by kernel_rfl, by kernel_rfl⟩
theorem z_38 : zeroT Tryd.prog 38 [.int .i64 0, .int .i64 0, .int .i64 0, .int .i64 0, .string ⟨#[]⟩, .string ⟨#[]⟩, .bool false, .int .i64 0, .int .i64 0, .int .i64 0, .string ⟨#[]⟩, .string ⟨#[]⟩, .bool false, .int .i64 0, .int .i64 0] := by unfold zeroT; kernel_rfl
theorem b_38 : BuildT Tryd.prog 38 [(0, 1), (1, 1), (2, 5), (7, 6), (13, 1), (14, 1)] [.int .i64 0, .int .i64 0, .int .i64 0, .int .i64 0, .string ⟨#[]⟩, .string ⟨#[]⟩, .bool false, .int .i64 0, .int .i64 0, .int .i64 0, .string ⟨#[]⟩, .string ⟨#[]⟩, .bool false, .int .i64 0, .int .i64 0] := ⟨by kernel_rfl, by kernel_rfl, by kernel_rfl, by kernel_rfl⟩
theorem p_39 : plainT Tryd.prog 39 := ⟨by kernel_rfl, by kernel_rfl⟩
theorem z_39 : zeroT Tryd.prog 39 [.slice none 0 0] := by unfold zeroT; kernel_rfl
theorem sl_39 : SliceT Tryd.prog 39 3 1 8 [.int .i64 0] := ⟨by kernel_rfl, by kernel_rfl⟩
theorem p_42 : plainT Tryd.prog 42 := ⟨by kernel_rfl, by kernel_rfl⟩
theorem z_42 : zeroT Tryd.prog 42 [.nilFunc] := by unfold zeroT; kernel_rfl
theorem uf_42 : (match Tryd.prog.underlying 42 with | some (.func ..) => true | _ => false) = true := by kernel_rfl
theorem s_44 : structT Tryd.prog 44 4 := ⟨by kernel_rfl, by kernel_rfl⟩
theorem z_44 : zeroT Tryd.prog 44 [.int .i64 0, .string ⟨#[]⟩, .nilFunc, .nilFunc] := by unfold zeroT; kernel_rfl
theorem b_44 : BuildT Tryd.prog 44 [(0, 2), (2, 1), (3, 1)] [.int .i64 0, .string ⟨#[]⟩, .nilFunc, .nilFunc] := ⟨by kernel_rfl, by kernel_rfl, by kernel_rfl, by kernel_rfl⟩
theorem p_54 : plainT Tryd.prog 54 := ⟨by kernel_rfl, by kernel_rfl⟩
theorem z_54 : zeroT Tryd.prog 54 [.nilFunc] := by unfold zeroT; kernel_rfl
theorem uf_54 : (match Tryd.prog.underlying 54 with | some (.func ..) => true | _ => false) = true := by kernel_rfl
theorem p_55 : plainT Tryd.prog 55 := ⟨by kernel_rfl, by kernel_rfl⟩
theorem z_55 : zeroT Tryd.prog 55 [.nilFunc] := by unfold zeroT; kernel_rfl
theorem uf_55 : (match Tryd.prog.underlying 55 with | some (.func ..) => true | _ => false) = true := by kernel_rfl
theorem s_57 : structT Tryd.prog 57 3 := ⟨by kernel_rfl, by kernel_rfl⟩
theorem z_57 : zeroT Tryd.prog 57 [.int .i64 0, .nilFunc, .nilFunc] := by unfold zeroT; kernel_rfl
theorem p_64 : plainT Tryd.prog 64 := ⟨by kernel_rfl, by kernel_rfl⟩
theorem z_64 : zeroT Tryd.prog 64 [.nilFunc] := by unfold zeroT; kernel_rfl
theorem uf_64 : (match Tryd.prog.underlying 64 with | some (.func ..) => true | _ => false) = true := by kernel_rfl
theorem p_68 : plainT Tryd.prog 68 := ⟨by kernel_rfl, by kernel_rfl⟩
theorem z_68 : zeroT Tryd.prog 68 [.slice none 0 0] := by unfold zeroT; kernel_rfl
theorem sl_68 : SliceT Tryd.prog 68 9 1 16 [.string ⟨#[]⟩] := ⟨by kernel_rfl, by kernel_rfl⟩
theorem p_69 : plainT Tryd.prog 69 := ⟨by kernel_rfl, by kernel_rfl⟩
theorem z_69 : zeroT Tryd.prog 69 [.nilFunc] := by unfold zeroT; kernel_rfl
theorem uf_69 : (match Tryd.prog.underlying 69 with | some (.func ..) => true | _ => false) = true := by kernel_rfl
theorem p_70 : plainT Tryd.prog 70 := ⟨by kernel_rfl, by kernel_rfl⟩
theorem z_70 : zeroT Tryd.prog 70 [.slice none 0 0] := by unfold zeroT; kernel_rfl
theorem sl_70 : SliceT Tryd.prog 70 134 2 24 [.string ⟨#[]⟩, .int .i64 0] := ⟨by kernel_rfl, by kernel_rfl⟩
theorem s_72 : structT Tryd.prog 72 2 := ⟨by kernel_rfl, by kernel_rfl⟩
theorem z_72 : zeroT Tryd.prog 72 [.slice none 0 0, .slice none 0 0] := by unfold zeroT; kernel_rfl
theorem b_72 : BuildT Tryd.prog 72 [(0, 1), (1, 1)] [.slice none 0 0, .slice none 0 0] := ⟨by kernel_rfl, by kernel_rfl, by kernel_rfl, by kernel_rfl⟩
theorem s_74 : structT Tryd.prog 74 3 := ⟨by kernel_rfl, by kernel_rfl⟩
theorem z_74 : zeroT Tryd.prog 74 [.slice none 0 0, .slice none 0 0, .int .i64 0] := by unfold zeroT; kernel_rfl
theorem b_74 : BuildT Tryd.prog 74 [(0, 2), (2, 1)] [.slice none 0 0, .slice none 0 0, .int .i64 0] := ⟨by kernel_rfl, by kernel_rfl, by kernel_rfl, by kernel_rfl⟩
theorem s_76 : structT Tryd.prog 76 4 := ⟨by kernel_rfl, by kernel_rfl⟩
theorem z_76 : zeroT Tryd.prog 76 [.slice none 0 0, .slice none 0 0, .slice none 0 0, .int .i64 0] := by unfold zeroT; kernel_rfl
theorem b_76 : BuildT Tryd.prog 76 [(0, 1), (1, 1), (2, 1), (3, 1)] [.slice none 0 0, .slice none 0 0, .slice none 0 0, .int .i64 0] := ⟨by kernel_rfl, by kernel_rfl, by kernel_rfl, by kernel_rfl⟩
theorem p_81 : plainT Tryd.prog 81 := ⟨by kernel_rfl, by kernel_rfl⟩
theorem z_81 : zeroT Tryd.prog 81 [.slice none 0 0] := by unfold zeroT; kernel_rfl
theorem sl_81 : SliceT Tryd.prog 81 32 3 40 [.string ⟨#[]⟩, .string ⟨#[]⟩, .bool false] := ⟨by kernel_rfl, by kernel_rfl⟩
theorem p_97 : plainT Tryd.prog 97 := ⟨by kernel_rfl, by kernel_rfl⟩
theorem z_97 : zeroT Tryd.prog 97 [.nilFunc] := by unfold zeroT; kernel_rfl
theorem uf_97 : (match Tryd.prog.underlying 97 with | some (.func ..) => true | _ => false) = true := by kernel_rfl
theorem p_105 : plainT Tryd.prog 105 := ⟨by kernel_rfl, by kernel_rfl⟩
theorem z_105 : zeroT Tryd.prog 105 [.slice none 0 0] := by unfold zeroT; kernel_rfl
theorem sl_105 : SliceT Tryd.prog 105 22 1 24 [.slice none 0 0] := ⟨by kernel_rfl, by kernel_rfl⟩
theorem s_107 : structT Tryd.prog 107 4 := ⟨by kernel_rfl, by kernel_rfl⟩
theorem z_107 : zeroT Tryd.prog 107 [.int .i64 0, .int .i64 0, .slice none 0 0, .slice none 0 0] := by unfold zeroT; kernel_rfl
theorem b_107 : BuildT Tryd.prog 107 [(0, 1), (1, 1), (2, 1), (3, 1)] [.int .i64 0, .int .i64 0, .slice none 0 0, .slice none 0 0] := ⟨by kernel_rfl, by kernel_rfl, by kernel_rfl, by kernel_rfl⟩
theorem p_114 : plainT Tryd.prog 114 := ⟨by kernel_rfl, by kernel_rfl⟩
theorem z_114 : zeroT Tryd.prog 114 [.pointer none] := by unfold zeroT; kernel_rfl
theorem p_116 : plainT Tryd.prog 116 := ⟨by kernel_rfl, by kernel_rfl⟩
theorem z_116 : zeroT Tryd.prog 116 [.nilFunc] := by unfold zeroT; kernel_rfl
theorem uf_116 : (match Tryd.prog.underlying 116 with | some (.func ..) => true | _ => false) = true := by kernel_rfl
theorem p_117 : plainT Tryd.prog 117 := ⟨by kernel_rfl, by kernel_rfl⟩
theorem z_117 : zeroT Tryd.prog 117 [.slice none 0 0] := by unfold zeroT; kernel_rfl
theorem sl_117 : SliceT Tryd.prog 117 4 1 1 [.bool false] := ⟨by kernel_rfl, by kernel_rfl⟩
theorem p_118 : plainT Tryd.prog 118 := ⟨by kernel_rfl, by kernel_rfl⟩
theorem z_118 : zeroT Tryd.prog 118 [.map none] := by unfold zeroT; kernel_rfl
theorem s_120 : structT Tryd.prog 120 8 := ⟨by kernel_rfl, by kernel_rfl⟩
theorem z_120 : zeroT Tryd.prog 120 [.int .i64 0, .string ⟨#[]⟩, .nilFunc, .nilFunc, .slice none 0 0, .slice none 0 0, .slice none 0 0, .map none] := by unfold zeroT; kernel_rfl
theorem b_120 : BuildT Tryd.prog 120 [(0, 4), (4, 1), (5, 1), (6, 1), (7, 1)] [.int .i64 0, .string ⟨#[]⟩, .nilFunc, .nilFunc, .slice none 0 0, .slice none 0 0, .slice none 0 0, .map none] := ⟨by kernel_rfl, by kernel_rfl, by kernel_rfl, by kernel_rfl⟩
theorem p_124 : plainT Tryd.prog 124 := ⟨by kernel_rfl, by kernel_rfl⟩
theorem z_124 : zeroT Tryd.prog 124 [.pointer none] := by unfold zeroT; kernel_rfl
theorem p_126 : plainT Tryd.prog 126 := ⟨by kernel_rfl, by kernel_rfl⟩
theorem z_126 : zeroT Tryd.prog 126 [.nilFunc] := by unfold zeroT; kernel_rfl
theorem uf_126 : (match Tryd.prog.underlying 126 with | some (.func ..) => true | _ => false) = true := by kernel_rfl
theorem s_128 : structT Tryd.prog 128 7 := ⟨by kernel_rfl, by kernel_rfl⟩
theorem z_128 : zeroT Tryd.prog 128 [.int .i64 0, .nilFunc, .nilFunc, .slice none 0 0, .slice none 0 0, .slice none 0 0, .map none] := by unfold zeroT; kernel_rfl
theorem b_128 : BuildT Tryd.prog 128 [(0, 3), (3, 1), (4, 1), (5, 1), (6, 1)] [.int .i64 0, .nilFunc, .nilFunc, .slice none 0 0, .slice none 0 0, .slice none 0 0, .map none] := ⟨by kernel_rfl, by kernel_rfl, by kernel_rfl, by kernel_rfl⟩
theorem p_131 : plainT Tryd.prog 131 := ⟨by kernel_rfl, by kernel_rfl⟩
theorem z_131 : zeroT Tryd.prog 131 [.nilFunc] := by unfold zeroT; kernel_rfl
theorem uf_131 : (match Tryd.prog.underlying 131 with | some (.func ..) => true | _ => false) = true := by kernel_rfl
theorem s_134 : structT Tryd.prog 134 2 := ⟨by kernel_rfl, by kernel_rfl⟩
theorem z_134 : zeroT Tryd.prog 134 [.string ⟨#[]⟩, .int .i64 0] := by unfold zeroT; kernel_rfl
theorem b_134 : BuildT Tryd.prog 134 [(0, 1), (1, 1)] [.string ⟨#[]⟩, .int .i64 0] := ⟨by kernel_rfl, by kernel_rfl, by kernel_rfl, by kernel_rfl⟩
theorem p_138 : plainT Tryd.prog 138 := ⟨by kernel_rfl, by kernel_rfl⟩
theorem z_138 : zeroT Tryd.prog 138 [.nilFunc] := by unfold zeroT; kernel_rfl
theorem uf_138 : (match Tryd.prog.underlying 138 with | some (.func ..) => true | _ => false) = true := by kernel_rfl
theorem p_142 : plainT Tryd.prog 142 := ⟨by kernel_rfl, by kernel_rfl⟩
theorem z_142 : zeroT Tryd.prog 142 [.pointer none] := by unfold zeroT; kernel_rfl
theorem s_144 : structT Tryd.prog 144 2 := ⟨by kernel_rfl, by kernel_rfl⟩
theorem z_144 : zeroT Tryd.prog 144 [.pointer none, .slice none 0 0] := by unfold zeroT; kernel_rfl
theorem p_146 : plainT Tryd.prog 146 := ⟨by kernel_rfl, by kernel_rfl⟩
theorem z_146 : zeroT Tryd.prog 146 [.nilIface] := by unfold zeroT; kernel_rfl
theorem p_148 : plainT Tryd.prog 148 := ⟨by kernel_rfl, by kernel_rfl⟩
theorem z_148 : zeroT Tryd.prog 148 [.int .u64 0] := by unfold zeroT; kernel_rfl
theorem ui_148 : Tryd.prog.underlying 148 = some (.int .u64) := by kernel_rfl
theorem p_150 : plainT Tryd.prog 150 := ⟨by kernel_rfl, by kernel_rfl⟩
theorem z_150 : zeroT Tryd.prog 150 [.int .u64 0] := by unfold zeroT; kernel_rfl
theorem ui_150 : Tryd.prog.underlying 150 = some (.int .u64) := by kernel_rfl
theorem p_160 : plainT Tryd.prog 160 := ⟨by kernel_rfl, by kernel_rfl⟩
theorem z_160 : zeroT Tryd.prog 160 [.map none] := by unfold zeroT; kernel_rfl
theorem p_163 : plainT Tryd.prog 163 := ⟨by kernel_rfl, by kernel_rfl⟩
theorem z_163 : zeroT Tryd.prog 163 [.pointer none] := by unfold zeroT; kernel_rfl
theorem p_172 : plainT Tryd.prog 172 := ⟨by kernel_rfl, by kernel_rfl⟩
theorem z_172 : zeroT Tryd.prog 172 [.pointer none] := by unfold zeroT; kernel_rfl
theorem s_174 : structT Tryd.prog 174 6 := ⟨by kernel_rfl, by kernel_rfl⟩
theorem z_174 : zeroT Tryd.prog 174 [.int .i64 0, .int .i64 0, .slice none 0 0, .slice none 0 0, .int .i64 0, .bool false] := by unfold zeroT; kernel_rfl
theorem b_174 : BuildT Tryd.prog 174 [(0, 4), (4, 1), (5, 1)] [.int .i64 0, .int .i64 0, .slice none 0 0, .slice none 0 0, .int .i64 0, .bool false] := ⟨by kernel_rfl, by kernel_rfl, by kernel_rfl, by kernel_rfl⟩
theorem p_176 : plainT Tryd.prog 176 := ⟨by kernel_rfl, by kernel_rfl⟩
theorem z_176 : zeroT Tryd.prog 176 [.nilFunc] := by unfold zeroT; kernel_rfl
theorem uf_176 : (match Tryd.prog.underlying 176 with | some (.func ..) => true | _ => false) = true := by kernel_rfl
theorem p_196 : plainT Tryd.prog 196 := ⟨by kernel_rfl, by kernel_rfl⟩
theorem z_196 : zeroT Tryd.prog 196 [.pointer none] := by unfold zeroT; kernel_rfl
theorem p_200 : plainT Tryd.prog 200 := ⟨by kernel_rfl, by kernel_rfl⟩
theorem z_200 : zeroT Tryd.prog 200 [.pointer none] := by unfold zeroT; kernel_rfl
theorem p_204 : plainT Tryd.prog 204 := ⟨by kernel_rfl, by kernel_rfl⟩
theorem z_204 : zeroT Tryd.prog 204 [.pointer none] := by unfold zeroT; kernel_rfl
theorem p_213 : plainT Tryd.prog 213 := ⟨by kernel_rfl, by kernel_rfl⟩
theorem z_213 : zeroT Tryd.prog 213 [.nilFunc] := by unfold zeroT; kernel_rfl
theorem uf_213 : (match Tryd.prog.underlying 213 with | some (.func ..) => true | _ => false) = true := by kernel_rfl
theorem p_215 : plainT Tryd.prog 215 := ⟨by kernel_rfl, by kernel_rfl⟩
theorem z_215 : zeroT Tryd.prog 215 [.nilFunc] := by unfold zeroT; kernel_rfl
theorem uf_215 : (match Tryd.prog.underlying 215 with | some (.func ..) => true | _ => false) = true := by kernel_rfl
theorem p_218 : plainT Tryd.prog 218 := ⟨by kernel_rfl, by kernel_rfl⟩
theorem z_218 : zeroT Tryd.prog 218 [.pointer none] := by unfold zeroT; kernel_rfl
theorem p_222 : plainT Tryd.prog 222 := ⟨by kernel_rfl, by kernel_rfl⟩
theorem z_222 : zeroT Tryd.prog 222 [.pointer none] := by unfold zeroT; kernel_rfl
theorem z_236 : zeroT Tryd.prog 236 [.bool false, .bool false, .bool false, .bool false, .bool false, .bool false, .bool false, .bool false, .bool false, .bool false, .bool false, .bool false, .bool false, .bool false, .bool false, .bool false, .bool false, .bool false, .bool false, .bool false, .bool false, .bool false, .bool false, .bool false, .bool false, .bool false, .bool false, .bool false, .bool false, .bool false, .bool false, .bool false, .bool false, .bool false, .bool false, .bool false, .bool false, .bool false, .bool false, .bool false, .bool false, .bool false, .bool false, .bool false, .bool false, .bool false, .bool false, .bool false, .bool false, .bool false, .bool false, .bool false, .bool false, .bool false, .bool false, .bool false, .bool false, .bool false, .bool false, .bool false, .bool false, .bool false, .bool false, .bool false, .bool false, .bool false, .bool false, .bool false, .bool false, .bool false, .bool false, .bool false, .bool false, .bool false, .bool false, .bool false, .bool false, .bool false, .bool false, .bool false, .bool false, .bool false, .bool false, .bool false, .bool false, .bool false, .bool false, .bool false, .bool false, .bool false, .bool false, .bool false, .bool false, .bool false, .bool false, .bool false, .bool false, .bool false, .bool false, .bool false, .bool false, .bool false, .bool false, .bool false, .bool false, .bool false, .bool false, .bool false, .bool false, .bool false, .bool false, .bool false, .bool false, .bool false, .bool false, .bool false, .bool false, .bool false, .bool false, .bool false, .bool false, .bool false, .bool false, .bool false, .bool false, .bool false, .bool false, .bool false, .bool false, .bool false, .bool false, .bool false, .bool false, .bool false, .bool false, .bool false, .bool false, .bool false, .bool false, .bool false, .bool false, .bool false, .bool false, .bool false, .bool false, .bool false, .bool false, .bool false, .bool false, .bool false, .bool false, .bool false, .bool false, .bool false, .bool false, .bool false, .bool false, .bool false, .bool false, .bool false, .bool false, .bool false, .bool false, .bool false, .bool false, .bool false, .bool false, .bool false, .bool false, .bool false, .bool false, .bool false, .bool false, .bool false, .bool false, .bool false, .bool false, .bool false, .bool false, .bool false, .bool false, .bool false, .bool false, .bool false, .bool false, .bool false, .bool false, .bool false, .bool false, .bool false, .bool false, .bool false, .bool false, .bool false, .bool false, .bool false, .bool false, .bool false, .bool false, .bool false, .bool false, .bool false, .bool false, .bool false, .bool false, .bool false, .bool false, .bool false, .bool false, .bool false, .bool false, .bool false, .bool false, .bool false, .bool false, .bool false, .bool false, .bool false, .bool false, .bool false, .bool false, .bool false, .bool false, .bool false, .bool false, .bool false, .bool false, .bool false, .bool false, .bool false, .bool false, .bool false, .bool false, .bool false, .bool false, .bool false, .bool false, .bool false, .bool false, .bool false, .bool false, .bool false, .bool false, .bool false, .bool false, .bool false, .bool false, .bool false, .bool false, .bool false, .bool false, .bool false, .bool false, .bool false, .bool false, .bool false] := by unfold zeroT; kernel_rfl
theorem p_243 : plainT Tryd.prog 243 := ⟨by kernel_rfl, by kernel_rfl⟩
theorem z_243 : zeroT Tryd.prog 243 [.nilFunc] := by unfold zeroT; kernel_rfl
theorem uf_243 : (match Tryd.prog.underlying 243 with | some (.func ..) => true | _ => false) = true := by kernel_rfl
theorem s_246 : structT Tryd.prog 246 3 := ⟨by kernel_rfl, by kernel_rfl⟩
theorem z_246 : zeroT Tryd.prog 246 [.string ⟨#[]⟩, .string ⟨#[]⟩, .nilIface] := by unfold zeroT; kernel_rfl
theorem b_246 : BuildT Tryd.prog 246 [(0, 1), (1, 1), (2, 1)] [.string ⟨#[]⟩, .string ⟨#[]⟩, .nilIface] := ⟨by kernel_rfl, by kernel_rfl, by kernel_rfl, by kernel_rfl⟩
theorem z_248 : zeroT Tryd.prog 248 [.int .u8 0, .int .u8 0, .int .u8 0, .int .u8 0, .int .u8 0, .int .u8 0, .int .u8 0, .int .u8 0, .int .u8 0, .int .u8 0, .int .u8 0, .int .u8 0, .int .u8 0, .int .u8 0, .int .u8 0, .int .u8 0, .int .u8 0, .int .u8 0, .int .u8 0, .int .u8 0, .int .u8 0, .int .u8 0, .int .u8 0, .int .u8 0] := by unfold zeroT; kernel_rfl
theorem p_257 : plainT Tryd.prog 257 := ⟨by kernel_rfl, by kernel_rfl⟩
theorem z_257 : zeroT Tryd.prog 257 [.pointer none] := by unfold zeroT; kernel_rfl
theorem s_260 : structT Tryd.prog 260 1 := ⟨by kernel_rfl, by kernel_rfl⟩
theorem z_260 : zeroT Tryd.prog 260 [.string ⟨#[]⟩] := by unfold zeroT; kernel_rfl
theorem b_260 : BuildT Tryd.prog 260 [(0, 1)] [.string ⟨#[]⟩] := ⟨by kernel_rfl, by kernel_rfl, by kernel_rfl, by kernel_rfl⟩
theorem z_262 : zeroT Tryd.prog 262 [.int .u64 0, .int .u64 0, .int .u64 0, .int .u64 0, .int .u64 0, .int .u64 0, .int .u64 0, .int .u64 0, .int .u64 0, .int .u64 0, .int .u64 0, .int .u64 0, .int .u64 0, .int .u64 0, .int .u64 0, .int .u64 0, .int .u64 0, .int .u64 0, .int .u64 0, .int .u64 0] := by unfold zeroT; kernel_rfl
theorem p_263 : plainT Tryd.prog 263 := ⟨by kernel_rfl, by kernel_rfl⟩
theorem z_263 : zeroT Tryd.prog 263 [.int .u32 0] := by unfold zeroT; kernel_rfl
theorem ui_263 : Tryd.prog.underlying 263 = some (.int .u32) := by kernel_rfl
theorem z_264 : zeroT Tryd.prog 264 [.int .u8 0, .int .u8 0, .int .u8 0, .int .u8 0, .int .u8 0, .int .u8 0, .int .u8 0, .int .u8 0, .int .u8 0, .int .u8 0, .int .u8 0, .int .u8 0, .int .u8 0, .int .u8 0, .int .u8 0, .int .u8 0, .int .u8 0, .int .u8 0, .int .u8 0, .int .u8 0, .int .u8 0, .int .u8 0, .int .u8 0, .int .u8 0, .int .u8 0, .int .u8 0, .int .u8 0, .int .u8 0, .int .u8 0, .int .u8 0, .int .u8 0, .int .u8 0, .int .u8 0, .int .u8 0, .int .u8 0, .int .u8 0, .int .u8 0, .int .u8 0, .int .u8 0, .int .u8 0, .int .u8 0, .int .u8 0, .int .u8 0, .int .u8 0, .int .u8 0, .int .u8 0, .int .u8 0, .int .u8 0, .int .u8 0, .int .u8 0, .int .u8 0, .int .u8 0, .int .u8 0, .int .u8 0, .int .u8 0, .int .u8 0, .int .u8 0, .int .u8 0, .int .u8 0, .int .u8 0, .int .u8 0, .int .u8 0, .int .u8 0, .int .u8 0, .int .u8 0] := by unfold zeroT; kernel_rfl
theorem z_266 : zeroT Tryd.prog 266 [.int .u8 0, .int .u8 0, .int .u8 0, .int .u8 0, .int .u8 0, .int .u8 0, .int .u8 0, .int .u8 0, .int .u8 0, .int .u8 0, .int .u8 0, .int .u8 0, .int .u8 0, .int .u8 0, .int .u8 0, .int .u8 0, .int .u8 0, .int .u8 0, .int .u8 0, .int .u8 0, .int .u8 0, .int .u8 0, .int .u8 0, .int .u8 0, .int .u8 0, .int .u8 0, .int .u8 0, .int .u8 0, .int .u8 0, .int .u8 0, .int .u8 0, .int .u8 0, .int .u8 0, .int .u8 0, .int .u8 0, .int .u8 0, .int .u8 0, .int .u8 0, .int .u8 0, .int .u8 0, .int .u8 0, .int .u8 0, .int .u8 0, .int .u8 0, .int .u8 0, .int .u8 0, .int .u8 0, .int .u8 0, .int .u8 0, .int .u8 0, .int .u8 0, .int .u8 0, .int .u8 0, .int .u8 0, .int .u8 0, .int .u8 0, .int .u8 0, .int .u8 0, .int .u8 0, .int .u8 0, .int .u8 0, .int .u8 0, .int .u8 0, .int .u8 0, .int .u8 0, .int .u8 0, .int .u8 0, .int .u8 0, .int .u8 0, .int .u8 0, .int .u8 0, .int .u8 0, .int .u8 0, .int .u8 0, .int .u8 0, .int .u8 0, .int .u8 0, .int .u8 0, .int .u8 0, .int .u8 0, .int .u8 0, .int .u8 0, .int .u8 0, .int .u8 0, .int .u8 0, .int .u8 0, .int .u8 0, .int .u8 0, .int .u8 0, .int .u8 0, .int .u8 0, .int .u8 0, .int .u8 0, .int .u8 0, .int .u8 0, .int .u8 0, .int .u8 0, .int .u8 0, .int .u8 0, .int .u8 0, .int .u8 0, .int .u8 0, .int .u8 0, .int .u8 0, .int .u8 0, .int .u8 0, .int .u8 0, .int .u8 0, .int .u8 0, .int .u8 0, .int .u8 0, .int .u8 0, .int .u8 0, .int .u8 0, .int .u8 0, .int .u8 0, .int .u8 0, .int .u8 0, .int .u8 0, .int .u8 0, .int .u8 0, .int .u8 0, .int .u8 0, .int .u8 0, .int .u8 0, .int .u8 0, .int .u8 0, .int .u8 0, .int .u8 0, .int .u8 0, .int .u8 0, .int .u8 0, .int .u8 0, .int .u8 0, .int .u8 0, .int .u8 0, .int .u8 0, .int .u8 0, .int .u8 0, .int .u8 0, .int .u8 0, .int .u8 0, .int .u8 0, .int .u8 0, .int .u8 0, .int .u8 0, .int .u8 0, .int .u8 0, .int .u8 0, .int .u8 0, .int .u8 0, .int .u8 0, .int .u8 0, .int .u8 0, .int .u8 0, .int .u8 0, .int .u8 0, .int .u8 0, .int .u8 0, .int .u8 0, .int .u8 0, .int .u8 0, .int .u8 0, .int .u8 0, .int .u8 0, .int .u8 0, .int .u8 0, .int .u8 0, .int .u8 0, .int .u8 0, .int .u8 0, .int .u8 0, .int .u8 0, .int .u8 0, .int .u8 0, .int .u8 0, .int .u8 0, .int .u8 0, .int .u8 0, .int .u8 0, .int .u8 0, .int .u8 0, .int .u8 0, .int .u8 0, .int .u8 0, .int .u8 0, .int .u8 0, .int .u8 0, .int .u8 0, .int .u8 0, .int .u8 0, .int .u8 0, .int .u8 0, .int .u8 0, .int .u8 0, .int .u8 0, .int .u8 0, .int .u8 0, .int .u8 0, .int .u8 0, .int .u8 0, .int .u8 0, .int .u8 0, .int .u8 0, .int .u8 0, .int .u8 0, .int .u8 0, .int .u8 0, .int .u8 0, .int .u8 0, .int .u8 0, .int .u8 0, .int .u8 0, .int .u8 0, .int .u8 0, .int .u8 0, .int .u8 0, .int .u8 0, .int .u8 0, .int .u8 0, .int .u8 0, .int .u8 0, .int .u8 0, .int .u8 0, .int .u8 0, .int .u8 0, .int .u8 0, .int .u8 0, .int .u8 0, .int .u8 0, .int .u8 0, .int .u8 0, .int .u8 0, .int .u8 0, .int .u8 0, .int .u8 0, .int .u8 0, .int .u8 0, .int .u8 0, .int .u8 0, .int .u8 0, .int .u8 0, .int .u8 0, .int .u8 0, .int .u8 0, .int .u8 0, .int .u8 0, .int .u8 0, .int .u8 0, .int .u8 0, .int .u8 0, .int .u8 0, .int .u8 0, .int .u8 0, .int .u8 0, .int .u8 0] := by unfold zeroT; kernel_rfl
theorem s_268 : structT Tryd.prog 268 2 := ⟨by kernel_rfl, by kernel_rfl⟩
theorem z_268 : zeroT Tryd.prog 268 [.int .u8 0, .int .u8 0] := by unfold zeroT; kernel_rfl
theorem b_268 : BuildT Tryd.prog 268 [(0, 1), (1, 1)] [.int .u8 0, .int .u8 0] := ⟨by kernel_rfl, by kernel_rfl, by kernel_rfl, by kernel_rfl⟩
theorem z_269 : zeroT Tryd.prog 269 [.int .u8 0, .int .u8 0, .int .u8 0, .int .u8 0, .int .u8 0, .int .u8 0, .int .u8 0, .int .u8 0, .int .u8 0, .int .u8 0, .int .u8 0, .int .u8 0, .int .u8 0, .int .u8 0, .int .u8 0, .int .u8 0, .int .u8 0, .int .u8 0, .int .u8 0, .int .u8 0, .int .u8 0, .int .u8 0, .int .u8 0, .int .u8 0, .int .u8 0, .int .u8 0, .int .u8 0, .int .u8 0, .int .u8 0, .int .u8 0, .int .u8 0, .int .u8 0] := by unfold zeroT; kernel_rfl
theorem z_275 : zeroT Tryd.prog 275 [.int .u8 0, .int .u8 0, .int .u8 0, .int .u8 0, .int .u8 0, .int .u8 0, .int .u8 0, .int .u8 0, .int .u8 0, .int .u8 0, .int .u8 0, .int .u8 0, .int .u8 0, .int .u8 0, .int .u8 0, .int .u8 0, .int .u8 0, .int .u8 0, .int .u8 0, .int .u8 0, .int .u8 0, .int .u8 0, .int .u8 0, .int .u8 0, .int .u8 0, .int .u8 0, .int .u8 0, .int .u8 0, .int .u8 0, .int .u8 0, .int .u8 0, .int .u8 0] := by unfold zeroT; kernel_rfl
theorem z_276 : zeroT Tryd.prog 276 [.int .u8 0, .int .u8 0, .int .u8 0, .int .u8 0, .int .u8 0, .int .u8 0, .int .u8 0, .int .u8 0, .int .u8 0, .int .u8 0, .int .u8 0, .int .u8 0, .int .u8 0, .int .u8 0, .int .u8 0, .int .u8 0, .int .u8 0, .int .u8 0, .int .u8 0, .int .u8 0, .int .u8 0, .int .u8 0, .int .u8 0, .int .u8 0, .int .u8 0, .int .u8 0, .int .u8 0, .int .u8 0, .int .u8 0, .int .u8 0, .int .u8 0, .int .u8 0, .int .u8 0, .int .u8 0, .int .u8 0, .int .u8 0, .int .u8 0, .int .u8 0, .int .u8 0, .int .u8 0, .int .u8 0, .int .u8 0, .int .u8 0, .int .u8 0, .int .u8 0, .int .u8 0, .int .u8 0, .int .u8 0, .int .u8 0, .int .u8 0, .int .u8 0, .int .u8 0, .int .u8 0, .int .u8 0, .int .u8 0, .int .u8 0, .int .u8 0, .int .u8 0, .int .u8 0, .int .u8 0, .int .u8 0, .int .u8 0, .int .u8 0, .int .u8 0] := by unfold zeroT; kernel_rfl
theorem f_27_0 : FieldT Tryd.prog 27 0 0 3 1 := ⟨by kernel_rfl, by kernel_rfl, by kernel_rfl⟩
theorem f_27_1 : FieldT Tryd.prog 27 1 1 9 1 := ⟨by kernel_rfl, by kernel_rfl, by kernel_rfl⟩
theorem f_29_0 : FieldT Tryd.prog 29 0 0 3 1 := ⟨by kernel_rfl, by kernel_rfl, by kernel_rfl⟩
theorem f_29_1 : FieldT Tryd.prog 29 1 1 3 1 := ⟨by kernel_rfl, by kernel_rfl, by kernel_rfl⟩
theorem f_29_2 : FieldT Tryd.prog 29 2 2 9 1 := ⟨by kernel_rfl, by kernel_rfl, by kernel_rfl⟩
theorem f_29_3 : FieldT Tryd.prog 29 3 3 9 1 := ⟨by kernel_rfl, by kernel_rfl, by kernel_rfl⟩
theorem f_29_4 : FieldT Tryd.prog 29 4 4 4 1 := ⟨by kernel_rfl, by kernel_rfl, by kernel_rfl⟩
theorem f_32_0 : FieldT Tryd.prog 32 0 0 9 1 := ⟨by kernel_rfl, by kernel_rfl, by kernel_rfl⟩
theorem f_32_1 : FieldT Tryd.prog 32 1 1 9 1 := ⟨by kernel_rfl, by kernel_rfl, by kernel_rfl⟩
theorem f_32_2 : FieldT Tryd.prog 32 2 2 4 1 := ⟨by kernel_rfl, by kernel_rfl, by kernel_rfl⟩
theorem f_34_0 : FieldT Tryd.prog 34 0 0 30 1 := ⟨by kernel_rfl, by kernel_rfl, by kernel_rfl⟩
theorem f_34_1 : FieldT Tryd.prog 34 1 1 3 1 := ⟨by kernel_rfl, by kernel_rfl, by kernel_rfl⟩
theorem f_34_2 : FieldT Tryd.prog 34 2 2 3 1 := ⟨by kernel_rfl, by kernel_rfl, by kernel_rfl⟩
theorem f_34_3 : FieldT Tryd.prog 34 3 3 32 3 := ⟨by kernel_rfl, by kernel_rfl, by kernel_rfl⟩
theorem f_38_0 : FieldT Tryd.prog 38 0 0 3 1 := ⟨by kernel_rfl, by kernel_rfl, by kernel_rfl⟩
theorem f_38_1 : FieldT Tryd.prog 38 1 1 3 1 := ⟨by kernel_rfl, by kernel_rfl, by kernel_rfl⟩
theorem f_38_2 : FieldT Tryd.prog 38 2 2 29 5 := ⟨by kernel_rfl, by kernel_rfl, by kernel_rfl⟩
theorem f_38_3 : FieldT Tryd.prog 38 3 7 34 6 := ⟨by kernel_rfl, by kernel_rfl, by kernel_rfl⟩
theorem f_38_4 : FieldT Tryd.prog 38 4 13 3 1 := ⟨by kernel_rfl, by kernel_rfl, by kernel_rfl⟩
theorem f_38_5 : FieldT Tryd.prog 38 5 14 3 1 := ⟨by kernel_rfl, by kernel_rfl, by kernel_rfl⟩
theorem f_44_0 : FieldT Tryd.prog 44 0 0 27 2 := ⟨by kernel_rfl, by kernel_rfl, by kernel_rfl⟩
theorem f_44_1 : FieldT Tryd.prog 44 1 2 36 1 := ⟨by kernel_rfl, by kernel_rfl, by kernel_rfl⟩
theorem f_44_2 : FieldT Tryd.prog 44 2 3 42 1 := ⟨by kernel_rfl, by kernel_rfl, by kernel_rfl⟩
theorem f_57_0 : FieldT Tryd.prog 57 0 0 3 1 := ⟨by kernel_rfl, by kernel_rfl, by kernel_rfl⟩
theorem f_57_1 : FieldT Tryd.prog 57 1 1 54 1 := ⟨by kernel_rfl, by kernel_rfl, by kernel_rfl⟩
theorem f_57_2 : FieldT Tryd.prog 57 2 2 55 1 := ⟨by kernel_rfl, by kernel_rfl, by kernel_rfl⟩
theorem f_72_0 : FieldT Tryd.prog 72 0 0 68 1 := ⟨by kernel_rfl, by kernel_rfl, by kernel_rfl⟩
theorem f_72_1 : FieldT Tryd.prog 72 1 1 70 1 := ⟨by kernel_rfl, by kernel_rfl, by kernel_rfl⟩
theorem f_74_0 : FieldT Tryd.prog 74 0 0 72 2 := ⟨by kernel_rfl, by kernel_rfl, by kernel_rfl⟩
theorem f_74_1 : FieldT Tryd.prog 74 1 2 3 1 := ⟨by kernel_rfl, by kernel_rfl, by kernel_rfl⟩
theorem f_76_0 : FieldT Tryd.prog 76 0 0 68 1 := ⟨by kernel_rfl, by kernel_rfl, by kernel_rfl⟩
theorem f_76_1 : FieldT Tryd.prog 76 1 1 68 1 := ⟨by kernel_rfl, by kernel_rfl, by kernel_rfl⟩
theorem f_76_2 : FieldT Tryd.prog 76 2 2 39 1 := ⟨by kernel_rfl, by kernel_rfl, by kernel_rfl⟩
theorem f_76_3 : FieldT Tryd.prog 76 3 3 3 1 := ⟨by kernel_rfl, by kernel_rfl, by kernel_rfl⟩
theorem f_107_0 : FieldT Tryd.prog 107 0 0 3 1 := ⟨by kernel_rfl, by kernel_rfl, by kernel_rfl⟩
theorem f_107_1 : FieldT Tryd.prog 107 1 1 3 1 := ⟨by kernel_rfl, by kernel_rfl, by kernel_rfl⟩
theorem f_107_2 : FieldT Tryd.prog 107 2 2 105 1 := ⟨by kernel_rfl, by kernel_rfl, by kernel_rfl⟩
theorem f_107_3 : FieldT Tryd.prog 107 3 3 39 1 := ⟨by kernel_rfl, by kernel_rfl, by kernel_rfl⟩
theorem f_120_0 : FieldT Tryd.prog 120 0 0 44 4 := ⟨by kernel_rfl, by kernel_rfl, by kernel_rfl⟩
theorem f_120_1 : FieldT Tryd.prog 120 1 4 25 1 := ⟨by kernel_rfl, by kernel_rfl, by kernel_rfl⟩
theorem f_120_2 : FieldT Tryd.prog 120 2 5 117 1 := ⟨by kernel_rfl, by kernel_rfl, by kernel_rfl⟩
theorem f_120_3 : FieldT Tryd.prog 120 3 6 39 1 := ⟨by kernel_rfl, by kernel_rfl, by kernel_rfl⟩
theorem f_120_4 : FieldT Tryd.prog 120 4 7 118 1 := ⟨by kernel_rfl, by kernel_rfl, by kernel_rfl⟩
theorem f_128_0 : FieldT Tryd.prog 128 0 0 57 3 := ⟨by kernel_rfl, by kernel_rfl, by kernel_rfl⟩
theorem f_128_1 : FieldT Tryd.prog 128 1 3 25 1 := ⟨by kernel_rfl, by kernel_rfl, by kernel_rfl⟩
theorem f_128_2 : FieldT Tryd.prog 128 2 4 117 1 := ⟨by kernel_rfl, by kernel_rfl, by kernel_rfl⟩
theorem f_128_3 : FieldT Tryd.prog 128 3 5 39 1 := ⟨by kernel_rfl, by kernel_rfl, by kernel_rfl⟩
theorem f_128_4 : FieldT Tryd.prog 128 4 6 118 1 := ⟨by kernel_rfl, by kernel_rfl, by kernel_rfl⟩
theorem f_134_0 : FieldT Tryd.prog 134 0 0 9 1 := ⟨by kernel_rfl, by kernel_rfl, by kernel_rfl⟩
theorem f_134_1 : FieldT Tryd.prog 134 1 1 3 1 := ⟨by kernel_rfl, by kernel_rfl, by kernel_rfl⟩
theorem f_144_0 : FieldT Tryd.prog 144 0 0 142 1 := ⟨by kernel_rfl, by kernel_rfl, by kernel_rfl⟩
theorem f_144_1 : FieldT Tryd.prog 144 1 1 23 1 := ⟨by kernel_rfl, by kernel_rfl, by kernel_rfl⟩
theorem f_174_0 : FieldT Tryd.prog 174 0 0 107 4 := ⟨by kernel_rfl, by kernel_rfl, by kernel_rfl⟩
theorem f_174_1 : FieldT Tryd.prog 174 1 4 3 1 := ⟨by kernel_rfl, by kernel_rfl, by kernel_rfl⟩
theorem f_174_2 : FieldT Tryd.prog 174 2 5 4 1 := ⟨by kernel_rfl, by kernel_rfl, by kernel_rfl⟩
theorem f_268_0 : FieldT Tryd.prog 268 0 0 5 1 := ⟨by kernel_rfl, by kernel_rfl, by kernel_rfl⟩
theorem f_268_1 : FieldT Tryd.prog 268 1 1 5 1 := ⟨by kernel_rfl, by kernel_rfl, by kernel_rfl⟩
theorem e_2 : entersB Tryd.prog 2 = true := by kernel_rfl
theorem e_3 : entersB Tryd.prog 3 = true := by kernel_rfl
theorem e_4 : entersB Tryd.prog 4 = true := by kernel_rfl
theorem e_5 : entersB Tryd.prog 5 = true := by kernel_rfl
theorem e_6 : entersB Tryd.prog 6 = true := by kernel_rfl
theorem e_7 : entersB Tryd.prog 7 = true := by kernel_rfl
theorem e_8 : entersB Tryd.prog 8 = true := by kernel_rfl
theorem e_9 : entersB Tryd.prog 9 = true := by kernel_rfl
theorem e_10 : entersB Tryd.prog 10 = true := by kernel_rfl
theorem e_11 : entersB Tryd.prog 11 = true := by kernel_rfl
theorem e_12 : entersB Tryd.prog 12 = true := by kernel_rfl
theorem e_13 : entersB Tryd.prog 13 = true := by kernel_rfl
theorem e_14 : entersB Tryd.prog 14 = true := by kernel_rfl
theorem e_15 : entersB Tryd.prog 15 = true := by kernel_rfl
theorem e_16 : entersB Tryd.prog 16 = true := by kernel_rfl
theorem e_17 : entersB Tryd.prog 17 = true := by kernel_rfl
theorem e_18 : entersB Tryd.prog 18 = true := by kernel_rfl
theorem e_19 : entersB Tryd.prog 19 = true := by kernel_rfl
theorem e_20 : entersB Tryd.prog 20 = true := by kernel_rfl
theorem e_21 : entersB Tryd.prog 21 = true := by kernel_rfl
theorem e_22 : entersB Tryd.prog 22 = true := by kernel_rfl
theorem e_23 : entersB Tryd.prog 23 = true := by kernel_rfl
theorem e_24 : entersB Tryd.prog 24 = true := by kernel_rfl
theorem e_25 : entersB Tryd.prog 25 = true := by kernel_rfl
theorem e_26 : entersB Tryd.prog 26 = true := by kernel_rfl
theorem e_27 : entersB Tryd.prog 27 = true := by kernel_rfl
theorem e_28 : entersB Tryd.prog 28 = true := by kernel_rfl
theorem e_29 : entersB Tryd.prog 29 = true := by kernel_rfl
theorem e_30 : entersB Tryd.prog 30 = true := by kernel_rfl
theorem e_31 : entersB Tryd.prog 31 = true := by kernel_rfl
theorem e_32 : entersB Tryd.prog 32 = true := by kernel_rfl
theorem e_33 : entersB Tryd.prog 33 = true := by kernel_rfl
theorem e_34 : entersB Tryd.prog 34 = true := by kernel_rfl
theorem e_35 : entersB Tryd.prog 35 = true := by kernel_rfl
theorem e_36 : entersB Tryd.prog 36 = true := by kernel_rfl
theorem e_37 : entersB Tryd.prog 37 = true := by kernel_rfl
theorem e_38 : entersB Tryd.prog 38 = true := by kernel_rfl
theorem e_39 : entersB Tryd.prog 39 = true := by kernel_rfl
theorem e_40 : entersB Tryd.prog 40 = true := by kernel_rfl
theorem e_41 : entersB Tryd.prog 41 = true := by kernel_rfl
theorem e_42 : entersB Tryd.prog 42 = true := by kernel_rfl
theorem e_43 : entersB Tryd.prog 43 = true := by kernel_rfl
theorem e_44 : entersB Tryd.prog 44 = true := by kernel_rfl
theorem e_45 : entersB Tryd.prog 45 = true := by kernel_rfl
theorem e_46 : entersB Tryd.prog 46 = true := by kernel_rfl
theorem e_47 : entersB Tryd.prog 47 = true := by kernel_rfl
theorem e_48 : entersB Tryd.prog 48 = true := by kernel_rfl
theorem e_49 : entersB Tryd.prog 49 = true := by kernel_rfl
theorem e_50 : entersB Tryd.prog 50 = true := by kernel_rfl
theorem e_51 : entersB Tryd.prog 51 = true := by kernel_rfl
theorem e_52 : entersB Tryd.prog 52 = true := by kernel_rfl
theorem e_53 : entersB Tryd.prog 53 = true := by kernel_rfl
theorem e_54 : entersB Tryd.prog 54 = true := by kernel_rfl
theorem e_55 : entersB Tryd.prog 55 = true := by kernel_rfl
theorem e_56 : entersB Tryd.prog 56 = true := by kernel_rfl
theorem e_57 : entersB Tryd.prog 57 = true := by kernel_rfl
theorem e_58 : entersB Tryd.prog 58 = true := by kernel_rfl
theorem e_59 : entersB Tryd.prog 59 = true := by kernel_rfl
theorem e_60 : entersB Tryd.prog 60 = true := by kernel_rfl
theorem e_61 : entersB Tryd.prog 61 = true := by kernel_rfl
theorem e_62 : entersB Tryd.prog 62 = true := by kernel_rfl
theorem e_63 : entersB Tryd.prog 63 = true := by kernel_rfl
theorem e_64 : entersB Tryd.prog 64 = true := by kernel_rfl
theorem e_65 : entersB Tryd.prog 65 = true := by kernel_rfl
theorem e_66 : entersB Tryd.prog 66 = true := by kernel_rfl
theorem e_67 : entersB Tryd.prog 67 = true := by kernel_rfl
theorem e_68 : entersB Tryd.prog 68 = true := by kernel_rfl
theorem e_69 : entersB Tryd.prog 69 = true := by kernel_rfl
theorem e_70 : entersB Tryd.prog 70 = true := by kernel_rfl
theorem e_71 : entersB Tryd.prog 71 = true := by kernel_rfl
theorem e_72 : entersB Tryd.prog 72 = true := by kernel_rfl
theorem e_73 : entersB Tryd.prog 73 = true := by kernel_rfl
theorem e_74 : entersB Tryd.prog 74 = true := by kernel_rfl
theorem e_75 : entersB Tryd.prog 75 = true := by kernel_rfl
theorem e_76 : entersB Tryd.prog 76 = true := by kernel_rfl
theorem e_77 : entersB Tryd.prog 77 = true := by kernel_rfl
theorem e_78 : entersB Tryd.prog 78 = true := by kernel_rfl
theorem e_79 : entersB Tryd.prog 79 = true := by kernel_rfl
theorem e_80 : entersB Tryd.prog 80 = true := by kernel_rfl
theorem e_81 : entersB Tryd.prog 81 = true := by kernel_rfl
theorem e_82 : entersB Tryd.prog 82 = true := by kernel_rfl
theorem e_83 : entersB Tryd.prog 83 = true := by kernel_rfl
theorem e_84 : entersB Tryd.prog 84 = true := by kernel_rfl
theorem e_85 : entersB Tryd.prog 85 = true := by kernel_rfl
theorem e_86 : entersB Tryd.prog 86 = true := by kernel_rfl
theorem e_87 : entersB Tryd.prog 87 = true := by kernel_rfl
theorem e_88 : entersB Tryd.prog 88 = true := by kernel_rfl
theorem e_89 : entersB Tryd.prog 89 = true := by kernel_rfl
theorem e_90 : entersB Tryd.prog 90 = true := by kernel_rfl
theorem e_91 : entersB Tryd.prog 91 = true := by kernel_rfl
theorem e_92 : entersB Tryd.prog 92 = true := by kernel_rfl
theorem e_93 : entersB Tryd.prog 93 = true := by kernel_rfl
theorem e_94 : entersB Tryd.prog 94 = true := by kernel_rfl
theorem e_95 : entersB Tryd.prog 95 = true := by kernel_rfl
theorem e_96 : entersB Tryd.prog 96 = true := by kernel_rfl
theorem e_97 : entersB Tryd.prog 97 = true := by kernel_rfl
theorem e_98 : entersB Tryd.prog 98 = true := by kernel_rfl
theorem e_99 : entersB Tryd.prog 99 = true := by kernel_rfl
theorem e_100 : entersB Tryd.prog 100 = true := by kernel_rfl
theorem e_101 : entersB Tryd.prog 101 = true := by kernel_rfl
theorem e_102 : entersB Tryd.prog 102 = true := by kernel_rfl
theorem e_103 : entersB Tryd.prog 103 = true := by kernel_rfl
theorem e_104 : entersB Tryd.prog 104 = true := by kernel_rfl
theorem e_105 : entersB Tryd.prog 105 = true := by kernel_rfl
theorem e_106 : entersB Tryd.prog 106 = true := by kernel_rfl
theorem e_107 : entersB Tryd.prog 107 = true := by kernel_rfl
theorem e_108 : entersB Tryd.prog 108 = true := by kernel_rfl
theorem e_109 : entersB Tryd.prog 109 = true := by kernel_rfl
theorem e_110 : entersB Tryd.prog 110 = true := by kernel_rfl
theorem e_111 : entersB Tryd.prog 111 = true := by kernel_rfl
theorem e_112 : entersB Tryd.prog 112 = true := by kernel_rfl
theorem e_113 : entersB Tryd.prog 113 = true := by kernel_rfl
theorem e_114 : entersB Tryd.prog 114 = true := by kernel_rfl
theorem e_115 : entersB Tryd.prog 115 = true := by kernel_rfl
theorem e_116 : entersB Tryd.prog 116 = true := by kernel_rfl
theorem e_117 : entersB Tryd.prog 117 = true := by kernel_rfl
theorem e_118 : entersB Tryd.prog 118 = true := by kernel_rfl
theorem e_119 : entersB Tryd.prog 119 = true := by kernel_rfl
theorem e_120 : entersB Tryd.prog 120 = true := by kernel_rfl
theorem e_121 : entersB Tryd.prog 121 = true := by kernel_rfl
theorem e_122 : entersB Tryd.prog 122 = true := by kernel_rfl
theorem e_123 : entersB Tryd.prog 123 = true := by kernel_rfl
theorem e_124 : entersB Tryd.prog 124 = true := by kernel_rfl
theorem e_125 : entersB Tryd.prog 125 = true := by kernel_rfl
theorem e_126 : entersB Tryd.prog 126 = true := by kernel_rfl
theorem e_127 : entersB Tryd.prog 127 = true := by kernel_rfl
theorem e_128 : entersB Tryd.prog 128 = true := by kernel_rfl
theorem e_129 : entersB Tryd.prog 129 = true := by kernel_rfl
theorem e_130 : entersB Tryd.prog 130 = true := by kernel_rfl
theorem e_131 : entersB Tryd.prog 131 = true := by kernel_rfl
theorem e_132 : entersB Tryd.prog 132 = true := by kernel_rfl
theorem e_133 : entersB Tryd.prog 133 = true := by kernel_rfl
theorem e_134 : entersB Tryd.prog 134 = true := by kernel_rfl
theorem e_135 : entersB Tryd.prog 135 = true := by kernel_rfl
theorem e_136 : entersB Tryd.prog 136 = true := by kernel_rfl
theorem e_137 : entersB Tryd.prog 137 = true := by kernel_rfl
theorem e_138 : entersB Tryd.prog 138 = true := by kernel_rfl
theorem e_139 : entersB Tryd.prog 139 = true := by kernel_rfl
theorem e_140 : entersB Tryd.prog 140 = true := by kernel_rfl
theorem e_141 : entersB Tryd.prog 141 = true := by kernel_rfl
theorem e_142 : entersB Tryd.prog 142 = true := by kernel_rfl
theorem e_143 : entersB Tryd.prog 143 = true := by kernel_rfl
theorem e_144 : entersB Tryd.prog 144 = true := by kernel_rfl
theorem e_145 : entersB Tryd.prog 145 = true := by kernel_rfl
theorem e_146 : entersB Tryd.prog 146 = true := by kernel_rfl
theorem e_147 : entersB Tryd.prog 147 = true := by kernel_rfl
theorem e_148 : entersB Tryd.prog 148 = true := by kernel_rfl
theorem e_149 : entersB Tryd.prog 149 = true := by kernel_rfl
theorem e_150 : entersB Tryd.prog 150 = true := by kernel_rfl
theorem e_151 : entersB Tryd.prog 151 = true := by kernel_rfl
theorem e_152 : entersB Tryd.prog 152 = true := by kernel_rfl
theorem e_153 : entersB Tryd.prog 153 = true := by kernel_rfl
theorem e_154 : entersB Tryd.prog 154 = true := by kernel_rfl
theorem e_155 : entersB Tryd.prog 155 = true := by kernel_rfl
theorem e_156 : entersB Tryd.prog 156 = true := by kernel_rfl
theorem e_157 : entersB Tryd.prog 157 = true := by kernel_rfl
theorem e_158 : entersB Tryd.prog 158 = true := by kernel_rfl
theorem e_159 : entersB Tryd.prog 159 = true := by kernel_rfl
theorem e_160 : entersB Tryd.prog 160 = true := by kernel_rfl
theorem e_161 : entersB Tryd.prog 161 = true := by kernel_rfl
theorem e_162 : entersB Tryd.prog 162 = true := by kernel_rfl
theorem e_163 : entersB Tryd.prog 163 = true := by kernel_rfl
theorem e_164 : entersB Tryd.prog 164 = true := by kernel_rfl
theorem e_165 : entersB Tryd.prog 165 = true := by kernel_rfl
theorem e_166 : entersB Tryd.prog 166 = true := by kernel_rfl
theorem e_167 : entersB Tryd.prog 167 = true := by kernel_rfl
theorem e_168 : entersB Tryd.prog 168 = true := by kernel_rfl
theorem e_169 : entersB Tryd.prog 169 = true := by kernel_rfl
theorem e_171 : entersB Tryd.prog 171 = true := by kernel_rfl
theorem e_172 : entersB Tryd.prog 172 = true := by kernel_rfl
theorem e_173 : entersB Tryd.prog 173 = true := by kernel_rfl
theorem e_174 : entersB Tryd.prog 174 = true := by kernel_rfl
theorem e_175 : entersB Tryd.prog 175 = true := by kernel_rfl
theorem e_176 : entersB Tryd.prog 176 = true := by kernel_rfl
theorem e_177 : entersB Tryd.prog 177 = true := by kernel_rfl
theorem e_178 : entersB Tryd.prog 178 = true := by kernel_rfl
theorem e_179 : entersB Tryd.prog 179 = true := by kernel_rfl
theorem e_180 : entersB Tryd.prog 180 = true := by kernel_rfl
theorem e_181 : entersB Tryd.prog 181 = true := by kernel_rfl
theorem e_182 : entersB Tryd.prog 182 = true := by kernel_rfl
theorem e_183 : entersB Tryd.prog 183 = true := by kernel_rfl
theorem e_184 : entersB Tryd.prog 184 = true := by kernel_rfl
theorem e_185 : entersB Tryd.prog 185 = true := by kernel_rfl
theorem e_186 : entersB Tryd.prog 186 = true := by kernel_rfl
theorem e_187 : entersB Tryd.prog 187 = true := by kernel_rfl
theorem e_188 : entersB Tryd.prog 188 = true := by kernel_rfl
theorem e_189 : entersB Tryd.prog 189 = true := by kernel_rfl
theorem e_190 : entersB Tryd.prog 190 = true := by kernel_rfl
theorem e_191 : entersB Tryd.prog 191 = true := by kernel_rfl
theorem e_192 : entersB Tryd.prog 192 = true := by kernel_rfl
theorem e_193 : entersB Tryd.prog 193 = true := by kernel_rfl
theorem e_194 : entersB Tryd.prog 194 = true := by kernel_rfl
theorem e_196 : entersB Tryd.prog 196 = true := by kernel_rfl
theorem e_198 : entersB Tryd.prog 198 = true := by kernel_rfl
theorem e_199 : entersB Tryd.prog 199 = true := by kernel_rfl
theorem e_200 : entersB Tryd.prog 200 = true := by kernel_rfl
theorem e_201 : entersB Tryd.prog 201 = true := by kernel_rfl
theorem e_202 : entersB Tryd.prog 202 = true := by kernel_rfl
theorem e_203 : entersB Tryd.prog 203 = true := by kernel_rfl
theorem e_204 : entersB Tryd.prog 204 = true := by kernel_rfl
theorem e_205 : entersB Tryd.prog 205 = true := by kernel_rfl
theorem e_206 : entersB Tryd.prog 206 = true := by kernel_rfl
theorem e_207 : entersB Tryd.prog 207 = true := by kernel_rfl
theorem e_208 : entersB Tryd.prog 208 = true := by kernel_rfl
theorem e_209 : entersB Tryd.prog 209 = true := by kernel_rfl
theorem e_210 : entersB Tryd.prog 210 = true := by kernel_rfl
theorem e_212 : entersB Tryd.prog 212 = true := by kernel_rfl
theorem e_214 : entersB Tryd.prog 214 = true := by kernel_rfl
theorem e_215 : entersB Tryd.prog 215 = true := by kernel_rfl
theorem e_216 : entersB Tryd.prog 216 = true := by kernel_rfl
theorem e_217 : entersB Tryd.prog 217 = true := by kernel_rfl
theorem e_219 : entersB Tryd.prog 219 = true := by kernel_rfl
theorem e_220 : entersB Tryd.prog 220 = true := by kernel_rfl
theorem e_222 : entersB Tryd.prog 222 = true := by kernel_rfl
theorem e_223 : entersB Tryd.prog 223 = true := by kernel_rfl
theorem e_224 : entersB Tryd.prog 224 = true := by kernel_rfl
theorem e_225 : entersB Tryd.prog 225 = true := by kernel_rfl
theorem e_226 : entersB Tryd.prog 226 = true := by kernel_rfl
theorem e_227 : entersB Tryd.prog 227 = true := by kernel_rfl
theorem e_228 : entersB Tryd.prog 228 = true := by kernel_rfl
theorem e_229 : entersB Tryd.prog 229 = true := by kernel_rfl
theorem e_230 : entersB Tryd.prog 230 = true := by kernel_rfl
theorem e_231 : entersB Tryd.prog 231 = true := by kernel_rfl
theorem e_232 : entersB Tryd.prog 232 = true := by kernel_rfl
theorem e_233 : entersB Tryd.prog 233 = true := by kernel_rfl
theorem e_234 : entersB Tryd.prog 234 = true := by kernel_rfl
theorem e_235 : entersB Tryd.prog 235 = true := by kernel_rfl
theorem e_236 : entersB Tryd.prog 236 = true := by kernel_rfl
theorem e_237 : entersB Tryd.prog 237 = true := by kernel_rfl
theorem e_268 : entersB Tryd.prog 268 = true := by kernel_rfl
end Go.Proofs.YthcclgoidchkdaaDoorC
