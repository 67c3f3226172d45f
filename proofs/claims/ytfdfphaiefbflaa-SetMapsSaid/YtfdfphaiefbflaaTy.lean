/- The types of this translation, in the calculus of YtfdfphaiefbflaaCoreA: each fact off the tables, by the kernel. -/
import Derived.Test.YtfdfphaiefbflaaCoreL
import Derived.Test.YtfdfphaiefbflaaProg
set_option linter.unusedVariables false
namespace Go.Proofs.YtfdfphaiefbflaaC
open Go.RowKit
theorem mixed : Try.prog.follows .mixedOrders = true := by kernel_rfl
theorem p_0 : plainT Try.prog 0 := ⟨by kernel_rfl, by kernel_rfl⟩
theorem p_1 : plainT Try.prog 1 := ⟨by kernel_rfl, by kernel_rfl⟩
theorem z_1 : zeroT Try.prog 1 [.nilFunc] := by unfold zeroT; kernel_rfl
theorem uf_1 : (match Try.prog.underlying 1 with | some (.func ..) => true | _ => false) = true := by kernel_rfl
theorem p_2 : plainT Try.prog 2 := ⟨by kernel_rfl, by kernel_rfl⟩
theorem z_2 : zeroT Try.prog 2 [.int .i64 0] := by unfold zeroT; kernel_rfl
theorem ui_2 : Try.prog.underlying 2 = some (.int .i64) := by kernel_rfl
theorem p_3 : plainT Try.prog 3 := ⟨by kernel_rfl, by kernel_rfl⟩
theorem z_3 : zeroT Try.prog 3 [.int .i64 0] := by unfold zeroT; kernel_rfl
theorem ui_3 : Try.prog.underlying 3 = some (.int .i64) := by kernel_rfl
theorem p_4 : plainT Try.prog 4 := ⟨by kernel_rfl, by kernel_rfl⟩
theorem z_4 : zeroT Try.prog 4 [.bool false] := by unfold zeroT; kernel_rfl
theorem ub_4 : Try.prog.underlying 4 = some .bool := by kernel_rfl
theorem p_5 : plainT Try.prog 5 := ⟨by kernel_rfl, by kernel_rfl⟩
theorem z_5 : zeroT Try.prog 5 [.int .u8 0] := by unfold zeroT; kernel_rfl
theorem ui_5 : Try.prog.underlying 5 = some (.int .u8) := by kernel_rfl
theorem p_9 : plainT Try.prog 9 := ⟨by kernel_rfl, by kernel_rfl⟩
theorem z_9 : zeroT Try.prog 9 [.string ⟨#[]⟩] := by unfold zeroT; kernel_rfl
theorem us_9 : Try.prog.underlying 9 = some .string := by kernel_rfl
theorem p_22 : plainT Try.prog 22 := ⟨by kernel_rfl, by kernel_rfl⟩
theorem z_22 : zeroT Try.prog 22 [.slice none 0 0] := by unfold zeroT; kernel_rfl
theorem sl_22 : SliceT Try.prog 22 102 15 152 [.int .i64 0, .int .i64 0, .int .i64 0, .int .i64 0, .string ⟨#[]⟩, .string ⟨#[]⟩, .bool false, .int .i64 0, .int .i64 0, .int .i64 0, .string ⟨#[]⟩, .string ⟨#[]⟩, .bool false, .int .i64 0, .int .i64 0] := ⟨by kernel_rfl, by kernel_rfl⟩
theorem p_25 : plainT Try.prog 25 := ⟨by kernel_rfl, by kernel_rfl⟩
theorem z_25 : zeroT Try.prog 25 [.slice none 0 0] := by unfold zeroT; kernel_rfl
theorem sl_25 : SliceT Try.prog 25 32 3 40 [.string ⟨#[]⟩, .string ⟨#[]⟩, .bool false] := ⟨by kernel_rfl, by kernel_rfl⟩
theorem p_28 : plainT Try.prog 28 := ⟨by kernel_rfl, by kernel_rfl⟩
theorem z_28 : zeroT Try.prog 28 [.nilFunc] := by unfold zeroT; kernel_rfl
theorem uf_28 : (match Try.prog.underlying 28 with | some (.func ..) => true | _ => false) = true := by kernel_rfl
theorem s_32 : structT Try.prog 32 3 := ⟨by kernel_rfl, by kernel_rfl⟩
theorem z_32 : zeroT Try.prog 32 [.string ⟨#[]⟩, .string ⟨#[]⟩, .bool false] := by unfold zeroT; kernel_rfl
theorem eg_32 : Try.prog.eqGuardType Try.prog.depth 32 = false := by kernel_rfl
theorem sh_32 : Try.prog.stoodInHeld 32 = false := by kernel_rfl
theorem fs_32 : fieldsT Try.prog 32 = [("Topic", 9, 0), ("Payload", 9, 1), ("Kept", 4, 2)] := by kernel_rfl
theorem p_36 : plainT Try.prog 36 := ⟨by kernel_rfl, by kernel_rfl⟩
theorem z_36 : zeroT Try.prog 36 [.slice none 0 0] := by unfold zeroT; kernel_rfl
theorem sl_36 : SliceT Try.prog 36 3 1 8 [.int .i64 0] := ⟨by kernel_rfl, by kernel_rfl⟩
theorem p_39 : plainT Try.prog 39 := ⟨by kernel_rfl, by kernel_rfl⟩
theorem z_39 : zeroT Try.prog 39 [.slice none 0 0] := by unfold zeroT; kernel_rfl
theorem sl_39 : SliceT Try.prog 39 112 0 0 [] := ⟨by kernel_rfl, by kernel_rfl⟩
theorem s_41 : structT Try.prog 41 2 := ⟨by kernel_rfl, by kernel_rfl⟩
theorem z_41 : zeroT Try.prog 41 [.slice none 0 0, .slice none 0 0] := by unfold zeroT; kernel_rfl
theorem b_41 : BuildT Try.prog 41 [(0, 1), (1, 1)] [.slice none 0 0, .slice none 0 0] := ⟨by kernel_rfl, by kernel_rfl, by kernel_rfl, by kernel_rfl⟩
theorem s_43 : structT Try.prog 43 2 := ⟨by kernel_rfl, by kernel_rfl⟩
theorem z_43 : zeroT Try.prog 43 [.slice none 0 0, .slice none 0 0] := by unfold zeroT; kernel_rfl
theorem b_43 : BuildT Try.prog 43 [(0, 2)] [.slice none 0 0, .slice none 0 0] := ⟨by kernel_rfl, by kernel_rfl, by kernel_rfl, by kernel_rfl⟩
theorem p_46 : plainT Try.prog 46 := ⟨by kernel_rfl, by kernel_rfl⟩
theorem z_46 : zeroT Try.prog 46 [.nilFunc] := by unfold zeroT; kernel_rfl
theorem uf_46 : (match Try.prog.underlying 46 with | some (.func ..) => true | _ => false) = true := by kernel_rfl
theorem p_52 : plainT Try.prog 52 := ⟨by kernel_rfl, by kernel_rfl⟩
theorem z_52 : zeroT Try.prog 52 [.slice none 0 0] := by unfold zeroT; kernel_rfl
theorem sl_52 : SliceT Try.prog 52 9 1 16 [.string ⟨#[]⟩] := ⟨by kernel_rfl, by kernel_rfl⟩
theorem p_53 : plainT Try.prog 53 := ⟨by kernel_rfl, by kernel_rfl⟩
theorem z_53 : zeroT Try.prog 53 [.slice none 0 0] := by unfold zeroT; kernel_rfl
theorem sl_53 : SliceT Try.prog 53 4 1 1 [.bool false] := ⟨by kernel_rfl, by kernel_rfl⟩
theorem s_55 : structT Try.prog 55 2 := ⟨by kernel_rfl, by kernel_rfl⟩
theorem z_55 : zeroT Try.prog 55 [.slice none 0 0, .slice none 0 0] := by unfold zeroT; kernel_rfl
theorem b_55 : BuildT Try.prog 55 [(0, 1), (1, 1)] [.slice none 0 0, .slice none 0 0] := ⟨by kernel_rfl, by kernel_rfl, by kernel_rfl, by kernel_rfl⟩
theorem s_57 : structT Try.prog 57 2 := ⟨by kernel_rfl, by kernel_rfl⟩
theorem z_57 : zeroT Try.prog 57 [.slice none 0 0, .slice none 0 0] := by unfold zeroT; kernel_rfl
theorem b_57 : BuildT Try.prog 57 [(0, 1), (1, 1)] [.slice none 0 0, .slice none 0 0] := ⟨by kernel_rfl, by kernel_rfl, by kernel_rfl, by kernel_rfl⟩
theorem p_69 : plainT Try.prog 69 := ⟨by kernel_rfl, by kernel_rfl⟩
theorem z_69 : zeroT Try.prog 69 [.pointer none] := by unfold zeroT; kernel_rfl
theorem p_73 : plainT Try.prog 73 := ⟨by kernel_rfl, by kernel_rfl⟩
theorem z_73 : zeroT Try.prog 73 [.nilFunc] := by unfold zeroT; kernel_rfl
theorem uf_73 : (match Try.prog.underlying 73 with | some (.func ..) => true | _ => false) = true := by kernel_rfl
theorem p_78 : plainT Try.prog 78 := ⟨by kernel_rfl, by kernel_rfl⟩
theorem z_78 : zeroT Try.prog 78 [.slice none 0 0] := by unfold zeroT; kernel_rfl
theorem sl_78 : SliceT Try.prog 78 86 5 48 [.int .i64 0, .int .i64 0, .int .i64 0, .int .i64 0, .string ⟨#[]⟩] := ⟨by kernel_rfl, by kernel_rfl⟩
theorem p_79 : plainT Try.prog 79 := ⟨by kernel_rfl, by kernel_rfl⟩
theorem z_79 : zeroT Try.prog 79 [.slice none 0 0] := by unfold zeroT; kernel_rfl
theorem sl_79 : SliceT Try.prog 79 69 1 8 [.pointer none] := ⟨by kernel_rfl, by kernel_rfl⟩
theorem p_80 : plainT Try.prog 80 := ⟨by kernel_rfl, by kernel_rfl⟩
theorem z_80 : zeroT Try.prog 80 [.pointer none] := by unfold zeroT; kernel_rfl
theorem p_81 : plainT Try.prog 81 := ⟨by kernel_rfl, by kernel_rfl⟩
theorem z_81 : zeroT Try.prog 81 [.slice none 0 0] := by unfold zeroT; kernel_rfl
theorem sl_81 : SliceT Try.prog 81 137 3 72 [.slice none 0 0, .slice none 0 0, .slice none 0 0] := ⟨by kernel_rfl, by kernel_rfl⟩
theorem s_83 : structT Try.prog 83 1 := ⟨by kernel_rfl, by kernel_rfl⟩
theorem z_83 : zeroT Try.prog 83 [.slice none 0 0] := by unfold zeroT; kernel_rfl
theorem b_83 : BuildT Try.prog 83 [(0, 1)] [.slice none 0 0] := ⟨by kernel_rfl, by kernel_rfl, by kernel_rfl, by kernel_rfl⟩
theorem s_86 : structT Try.prog 86 5 := ⟨by kernel_rfl, by kernel_rfl⟩
theorem z_86 : zeroT Try.prog 86 [.int .i64 0, .int .i64 0, .int .i64 0, .int .i64 0, .string ⟨#[]⟩] := by unfold zeroT; kernel_rfl
theorem s_97 : structT Try.prog 97 5 := ⟨by kernel_rfl, by kernel_rfl⟩
theorem z_97 : zeroT Try.prog 97 [.int .i64 0, .int .i64 0, .string ⟨#[]⟩, .string ⟨#[]⟩, .bool false] := by unfold zeroT; kernel_rfl
theorem p_98 : plainT Try.prog 98 := ⟨by kernel_rfl, by kernel_rfl⟩
theorem z_98 : zeroT Try.prog 98 [.int .i64 0] := by unfold zeroT; kernel_rfl
theorem ui_98 : Try.prog.underlying 98 = some (.int .i64) := by kernel_rfl
theorem s_100 : structT Try.prog 100 6 := ⟨by kernel_rfl, by kernel_rfl⟩
theorem z_100 : zeroT Try.prog 100 [.int .i64 0, .int .i64 0, .int .i64 0, .string ⟨#[]⟩, .string ⟨#[]⟩, .bool false] := by unfold zeroT; kernel_rfl
theorem s_102 : structT Try.prog 102 15 := ⟨by kernel_rfl, by kernel_rfl⟩
theorem z_102 : zeroT Try.prog 102 [.int .i64 0, .int .i64 0, .int .i64 0, .int .i64 0, .string ⟨#[]⟩, .string ⟨#[]⟩, .bool false, .int .i64 0, .int .i64 0, .int .i64 0, .string ⟨#[]⟩, .string ⟨#[]⟩, .bool false, .int .i64 0, .int .i64 0] := by unfold zeroT; kernel_rfl
theorem b_102 : BuildT Try.prog 102 [(0, 1), (1, 1), (2, 5), (7, 6), (13, 1), (14, 1)] [.int .i64 0, .int .i64 0, .int .i64 0, .int .i64 0, .string ⟨#[]⟩, .string ⟨#[]⟩, .bool false, .int .i64 0, .int .i64 0, .int .i64 0, .string ⟨#[]⟩, .string ⟨#[]⟩, .bool false, .int .i64 0, .int .i64 0] := ⟨by kernel_rfl, by kernel_rfl, by kernel_rfl, by kernel_rfl⟩
theorem p_103 : plainT Try.prog 103 := ⟨by kernel_rfl, by kernel_rfl⟩
theorem z_103 : zeroT Try.prog 103 [.nilFunc] := by unfold zeroT; kernel_rfl
theorem uf_103 : (match Try.prog.underlying 103 with | some (.func ..) => true | _ => false) = true := by kernel_rfl
theorem p_108 : plainT Try.prog 108 := ⟨by kernel_rfl, by kernel_rfl⟩
theorem z_108 : zeroT Try.prog 108 [.slice none 0 0] := by unfold zeroT; kernel_rfl
theorem sl_108 : SliceT Try.prog 108 5 1 1 [.int .u8 0] := ⟨by kernel_rfl, by kernel_rfl⟩
theorem p_110 : plainT Try.prog 110 := ⟨by kernel_rfl, by kernel_rfl⟩
theorem z_110 : zeroT Try.prog 110 [.nilFunc] := by unfold zeroT; kernel_rfl
theorem uf_110 : (match Try.prog.underlying 110 with | some (.func ..) => true | _ => false) = true := by kernel_rfl
theorem s_112 : structT Try.prog 112 0 := ⟨by kernel_rfl, by kernel_rfl⟩
theorem z_112 : zeroT Try.prog 112 [] := by unfold zeroT; kernel_rfl
theorem b_112 : BuildT Try.prog 112 [] [] := ⟨by kernel_rfl, by kernel_rfl, by kernel_rfl, by kernel_rfl⟩
theorem p_123 : plainT Try.prog 123 := ⟨by kernel_rfl, by kernel_rfl⟩
theorem z_123 : zeroT Try.prog 123 [.nilFunc] := by unfold zeroT; kernel_rfl
theorem uf_123 : (match Try.prog.underlying 123 with | some (.func ..) => true | _ => false) = true := by kernel_rfl
theorem s_128 : structT Try.prog 128 2 := ⟨by kernel_rfl, by kernel_rfl⟩
theorem z_128 : zeroT Try.prog 128 [.slice none 0 0, .slice none 0 0] := by unfold zeroT; kernel_rfl
theorem b_128 : BuildT Try.prog 128 [(0, 1), (1, 1)] [.slice none 0 0, .slice none 0 0] := ⟨by kernel_rfl, by kernel_rfl, by kernel_rfl, by kernel_rfl⟩
theorem s_130 : structT Try.prog 130 4 := ⟨by kernel_rfl, by kernel_rfl⟩
theorem z_130 : zeroT Try.prog 130 [.slice none 0 0, .slice none 0 0, .slice none 0 0, .slice none 0 0] := by unfold zeroT; kernel_rfl
theorem b_130 : BuildT Try.prog 130 [(0, 2), (2, 2)] [.slice none 0 0, .slice none 0 0, .slice none 0 0, .slice none 0 0] := ⟨by kernel_rfl, by kernel_rfl, by kernel_rfl, by kernel_rfl⟩
theorem s_137 : structT Try.prog 137 3 := ⟨by kernel_rfl, by kernel_rfl⟩
theorem z_137 : zeroT Try.prog 137 [.slice none 0 0, .slice none 0 0, .slice none 0 0] := by unfold zeroT; kernel_rfl
theorem b_137 : BuildT Try.prog 137 [(0, 1), (1, 2)] [.slice none 0 0, .slice none 0 0, .slice none 0 0] := ⟨by kernel_rfl, by kernel_rfl, by kernel_rfl, by kernel_rfl⟩
theorem p_145 : plainT Try.prog 145 := ⟨by kernel_rfl, by kernel_rfl⟩
theorem z_145 : zeroT Try.prog 145 [.int .u64 0] := by unfold zeroT; kernel_rfl
theorem ui_145 : Try.prog.underlying 145 = some (.int .u64) := by kernel_rfl
theorem p_148 : plainT Try.prog 148 := ⟨by kernel_rfl, by kernel_rfl⟩
theorem z_148 : zeroT Try.prog 148 [.nilFunc] := by unfold zeroT; kernel_rfl
theorem uf_148 : (match Try.prog.underlying 148 with | some (.func ..) => true | _ => false) = true := by kernel_rfl
theorem p_152 : plainT Try.prog 152 := ⟨by kernel_rfl, by kernel_rfl⟩
theorem z_152 : zeroT Try.prog 152 [.nilFunc] := by unfold zeroT; kernel_rfl
theorem uf_152 : (match Try.prog.underlying 152 with | some (.func ..) => true | _ => false) = true := by kernel_rfl
theorem p_169 : plainT Try.prog 169 := ⟨by kernel_rfl, by kernel_rfl⟩
theorem z_169 : zeroT Try.prog 169 [.int .u32 0] := by unfold zeroT; kernel_rfl
theorem ui_169 : Try.prog.underlying 169 = some (.int .u32) := by kernel_rfl
theorem f_32_0 : FieldT Try.prog 32 0 0 9 1 := ⟨by kernel_rfl, by kernel_rfl, by kernel_rfl⟩
theorem f_32_1 : FieldT Try.prog 32 1 1 9 1 := ⟨by kernel_rfl, by kernel_rfl, by kernel_rfl⟩
theorem f_41_0 : FieldT Try.prog 41 0 0 36 1 := ⟨by kernel_rfl, by kernel_rfl, by kernel_rfl⟩
theorem f_41_1 : FieldT Try.prog 41 1 1 39 1 := ⟨by kernel_rfl, by kernel_rfl, by kernel_rfl⟩
theorem f_43_0 : FieldT Try.prog 43 0 0 41 2 := ⟨by kernel_rfl, by kernel_rfl, by kernel_rfl⟩
theorem f_55_0 : FieldT Try.prog 55 0 0 52 1 := ⟨by kernel_rfl, by kernel_rfl, by kernel_rfl⟩
theorem f_55_1 : FieldT Try.prog 55 1 1 36 1 := ⟨by kernel_rfl, by kernel_rfl, by kernel_rfl⟩
theorem f_57_0 : FieldT Try.prog 57 0 0 52 1 := ⟨by kernel_rfl, by kernel_rfl, by kernel_rfl⟩
theorem f_57_1 : FieldT Try.prog 57 1 1 36 1 := ⟨by kernel_rfl, by kernel_rfl, by kernel_rfl⟩
theorem f_83_0 : FieldT Try.prog 83 0 0 81 1 := ⟨by kernel_rfl, by kernel_rfl, by kernel_rfl⟩
theorem f_86_0 : FieldT Try.prog 86 0 0 3 1 := ⟨by kernel_rfl, by kernel_rfl, by kernel_rfl⟩
theorem f_86_1 : FieldT Try.prog 86 1 1 3 1 := ⟨by kernel_rfl, by kernel_rfl, by kernel_rfl⟩
theorem f_86_2 : FieldT Try.prog 86 2 2 3 1 := ⟨by kernel_rfl, by kernel_rfl, by kernel_rfl⟩
theorem f_86_3 : FieldT Try.prog 86 3 3 3 1 := ⟨by kernel_rfl, by kernel_rfl, by kernel_rfl⟩
theorem f_86_4 : FieldT Try.prog 86 4 4 9 1 := ⟨by kernel_rfl, by kernel_rfl, by kernel_rfl⟩
theorem f_97_0 : FieldT Try.prog 97 0 0 3 1 := ⟨by kernel_rfl, by kernel_rfl, by kernel_rfl⟩
theorem f_97_1 : FieldT Try.prog 97 1 1 3 1 := ⟨by kernel_rfl, by kernel_rfl, by kernel_rfl⟩
theorem f_97_2 : FieldT Try.prog 97 2 2 9 1 := ⟨by kernel_rfl, by kernel_rfl, by kernel_rfl⟩
theorem f_97_3 : FieldT Try.prog 97 3 3 9 1 := ⟨by kernel_rfl, by kernel_rfl, by kernel_rfl⟩
theorem f_100_0 : FieldT Try.prog 100 0 0 98 1 := ⟨by kernel_rfl, by kernel_rfl, by kernel_rfl⟩
theorem f_100_3 : FieldT Try.prog 100 3 3 32 3 := ⟨by kernel_rfl, by kernel_rfl, by kernel_rfl⟩
theorem f_102_2 : FieldT Try.prog 102 2 2 97 5 := ⟨by kernel_rfl, by kernel_rfl, by kernel_rfl⟩
theorem f_102_3 : FieldT Try.prog 102 3 7 100 6 := ⟨by kernel_rfl, by kernel_rfl, by kernel_rfl⟩
theorem f_102_4 : FieldT Try.prog 102 4 13 3 1 := ⟨by kernel_rfl, by kernel_rfl, by kernel_rfl⟩
theorem f_102_5 : FieldT Try.prog 102 5 14 3 1 := ⟨by kernel_rfl, by kernel_rfl, by kernel_rfl⟩
theorem f_128_0 : FieldT Try.prog 128 0 0 52 1 := ⟨by kernel_rfl, by kernel_rfl, by kernel_rfl⟩
theorem f_128_1 : FieldT Try.prog 128 1 1 79 1 := ⟨by kernel_rfl, by kernel_rfl, by kernel_rfl⟩
theorem f_130_0 : FieldT Try.prog 130 0 0 43 2 := ⟨by kernel_rfl, by kernel_rfl, by kernel_rfl⟩
theorem f_130_1 : FieldT Try.prog 130 1 2 128 2 := ⟨by kernel_rfl, by kernel_rfl, by kernel_rfl⟩
theorem f_137_0 : FieldT Try.prog 137 0 0 36 1 := ⟨by kernel_rfl, by kernel_rfl, by kernel_rfl⟩
theorem f_137_1 : FieldT Try.prog 137 1 1 57 2 := ⟨by kernel_rfl, by kernel_rfl, by kernel_rfl⟩
theorem e_2 : entersB Try.prog 2 = true := by kernel_rfl
theorem e_3 : entersB Try.prog 3 = true := by kernel_rfl
theorem e_4 : entersB Try.prog 4 = true := by kernel_rfl
theorem e_5 : entersB Try.prog 5 = true := by kernel_rfl
theorem e_6 : entersB Try.prog 6 = true := by kernel_rfl
theorem e_7 : entersB Try.prog 7 = true := by kernel_rfl
theorem e_8 : entersB Try.prog 8 = true := by kernel_rfl
theorem e_9 : entersB Try.prog 9 = true := by kernel_rfl
theorem e_10 : entersB Try.prog 10 = true := by kernel_rfl
theorem e_11 : entersB Try.prog 11 = true := by kernel_rfl
theorem e_12 : entersB Try.prog 12 = true := by kernel_rfl
theorem e_13 : entersB Try.prog 13 = true := by kernel_rfl
theorem e_14 : entersB Try.prog 14 = true := by kernel_rfl
theorem e_15 : entersB Try.prog 15 = true := by kernel_rfl
theorem e_16 : entersB Try.prog 16 = true := by kernel_rfl
theorem e_17 : entersB Try.prog 17 = true := by kernel_rfl
theorem e_18 : entersB Try.prog 18 = true := by kernel_rfl
theorem e_19 : entersB Try.prog 19 = true := by kernel_rfl
theorem e_20 : entersB Try.prog 20 = true := by kernel_rfl
theorem e_21 : entersB Try.prog 21 = true := by kernel_rfl
theorem e_22 : entersB Try.prog 22 = true := by kernel_rfl
theorem e_23 : entersB Try.prog 23 = true := by kernel_rfl
theorem e_24 : entersB Try.prog 24 = true := by kernel_rfl
theorem e_25 : entersB Try.prog 25 = true := by kernel_rfl
theorem e_26 : entersB Try.prog 26 = true := by kernel_rfl
theorem e_27 : entersB Try.prog 27 = true := by kernel_rfl
theorem e_28 : entersB Try.prog 28 = true := by kernel_rfl
theorem e_29 : entersB Try.prog 29 = true := by kernel_rfl
theorem e_30 : entersB Try.prog 30 = true := by kernel_rfl
theorem e_31 : entersB Try.prog 31 = true := by kernel_rfl
theorem e_32 : entersB Try.prog 32 = true := by kernel_rfl
theorem e_33 : entersB Try.prog 33 = true := by kernel_rfl
theorem e_34 : entersB Try.prog 34 = true := by kernel_rfl
theorem e_35 : entersB Try.prog 35 = true := by kernel_rfl
theorem e_36 : entersB Try.prog 36 = true := by kernel_rfl
theorem e_37 : entersB Try.prog 37 = true := by kernel_rfl
theorem e_38 : entersB Try.prog 38 = true := by kernel_rfl
theorem e_39 : entersB Try.prog 39 = true := by kernel_rfl
theorem e_40 : entersB Try.prog 40 = true := by kernel_rfl
theorem e_41 : entersB Try.prog 41 = true := by kernel_rfl
theorem e_42 : entersB Try.prog 42 = true := by kernel_rfl
theorem e_43 : entersB Try.prog 43 = true := by kernel_rfl
theorem e_44 : entersB Try.prog 44 = true := by kernel_rfl
theorem e_45 : entersB Try.prog 45 = true := by kernel_rfl
theorem e_46 : entersB Try.prog 46 = true := by kernel_rfl
theorem e_47 : entersB Try.prog 47 = true := by kernel_rfl
theorem e_48 : entersB Try.prog 48 = true := by kernel_rfl
theorem e_49 : entersB Try.prog 49 = true := by kernel_rfl
theorem e_50 : entersB Try.prog 50 = true := by kernel_rfl
theorem e_51 : entersB Try.prog 51 = true := by kernel_rfl
theorem e_52 : entersB Try.prog 52 = true := by kernel_rfl
theorem e_53 : entersB Try.prog 53 = true := by kernel_rfl
theorem e_54 : entersB Try.prog 54 = true := by kernel_rfl
theorem e_55 : entersB Try.prog 55 = true := by kernel_rfl
theorem e_56 : entersB Try.prog 56 = true := by kernel_rfl
theorem e_57 : entersB Try.prog 57 = true := by kernel_rfl
theorem e_58 : entersB Try.prog 58 = true := by kernel_rfl
theorem e_59 : entersB Try.prog 59 = true := by kernel_rfl
theorem e_60 : entersB Try.prog 60 = true := by kernel_rfl
theorem e_61 : entersB Try.prog 61 = true := by kernel_rfl
theorem e_62 : entersB Try.prog 62 = true := by kernel_rfl
theorem e_63 : entersB Try.prog 63 = true := by kernel_rfl
theorem e_64 : entersB Try.prog 64 = true := by kernel_rfl
theorem e_65 : entersB Try.prog 65 = true := by kernel_rfl
theorem e_66 : entersB Try.prog 66 = true := by kernel_rfl
theorem e_67 : entersB Try.prog 67 = true := by kernel_rfl
theorem e_68 : entersB Try.prog 68 = true := by kernel_rfl
theorem e_69 : entersB Try.prog 69 = true := by kernel_rfl
theorem e_70 : entersB Try.prog 70 = true := by kernel_rfl
theorem e_71 : entersB Try.prog 71 = true := by kernel_rfl
theorem e_72 : entersB Try.prog 72 = true := by kernel_rfl
theorem e_73 : entersB Try.prog 73 = true := by kernel_rfl
theorem e_74 : entersB Try.prog 74 = true := by kernel_rfl
theorem e_75 : entersB Try.prog 75 = true := by kernel_rfl
theorem e_76 : entersB Try.prog 76 = true := by kernel_rfl
theorem e_77 : entersB Try.prog 77 = true := by kernel_rfl
theorem e_78 : entersB Try.prog 78 = true := by kernel_rfl
theorem e_79 : entersB Try.prog 79 = true := by kernel_rfl
theorem e_80 : entersB Try.prog 80 = true := by kernel_rfl
theorem e_81 : entersB Try.prog 81 = true := by kernel_rfl
theorem e_82 : entersB Try.prog 82 = true := by kernel_rfl
theorem e_83 : entersB Try.prog 83 = true := by kernel_rfl
theorem e_84 : entersB Try.prog 84 = true := by kernel_rfl
theorem e_85 : entersB Try.prog 85 = true := by kernel_rfl
theorem e_86 : entersB Try.prog 86 = true := by kernel_rfl
theorem e_87 : entersB Try.prog 87 = true := by kernel_rfl
theorem e_88 : entersB Try.prog 88 = true := by kernel_rfl
theorem e_89 : entersB Try.prog 89 = true := by kernel_rfl
theorem e_90 : entersB Try.prog 90 = true := by kernel_rfl
theorem e_91 : entersB Try.prog 91 = true := by kernel_rfl
theorem e_92 : entersB Try.prog 92 = true := by kernel_rfl
theorem e_93 : entersB Try.prog 93 = true := by kernel_rfl
theorem e_94 : entersB Try.prog 94 = true := by kernel_rfl
theorem e_95 : entersB Try.prog 95 = true := by kernel_rfl
theorem e_96 : entersB Try.prog 96 = true := by kernel_rfl
theorem e_97 : entersB Try.prog 97 = true := by kernel_rfl
theorem e_98 : entersB Try.prog 98 = true := by kernel_rfl
theorem e_99 : entersB Try.prog 99 = true := by kernel_rfl
theorem e_100 : entersB Try.prog 100 = true := by kernel_rfl
theorem e_101 : entersB Try.prog 101 = true := by kernel_rfl
theorem e_102 : entersB Try.prog 102 = true := by kernel_rfl
theorem e_103 : entersB Try.prog 103 = true := by kernel_rfl
theorem e_104 : entersB Try.prog 104 = true := by kernel_rfl
theorem e_105 : entersB Try.prog 105 = true := by kernel_rfl
theorem e_106 : entersB Try.prog 106 = true := by kernel_rfl
theorem e_107 : entersB Try.prog 107 = true := by kernel_rfl
theorem e_108 : entersB Try.prog 108 = true := by kernel_rfl
theorem e_109 : entersB Try.prog 109 = true := by kernel_rfl
theorem e_110 : entersB Try.prog 110 = true := by kernel_rfl
theorem e_111 : entersB Try.prog 111 = true := by kernel_rfl
theorem e_112 : entersB Try.prog 112 = true := by kernel_rfl
theorem e_113 : entersB Try.prog 113 = true := by kernel_rfl
theorem e_114 : entersB Try.prog 114 = true := by kernel_rfl
theorem e_115 : entersB Try.prog 115 = true := by kernel_rfl
theorem e_116 : entersB Try.prog 116 = true := by kernel_rfl
theorem e_117 : entersB Try.prog 117 = true := by kernel_rfl
theorem e_118 : entersB Try.prog 118 = true := by kernel_rfl
theorem e_120 : entersB Try.prog 120 = true := by kernel_rfl
theorem e_122 : entersB Try.prog 122 = true := by kernel_rfl
theorem e_123 : entersB Try.prog 123 = true := by kernel_rfl
theorem e_124 : entersB Try.prog 124 = true := by kernel_rfl
theorem e_125 : entersB Try.prog 125 = true := by kernel_rfl
theorem e_127 : entersB Try.prog 127 = true := by kernel_rfl
theorem e_128 : entersB Try.prog 128 = true := by kernel_rfl
theorem e_129 : entersB Try.prog 129 = true := by kernel_rfl
theorem e_130 : entersB Try.prog 130 = true := by kernel_rfl
theorem e_131 : entersB Try.prog 131 = true := by kernel_rfl
theorem e_133 : entersB Try.prog 133 = true := by kernel_rfl
theorem e_135 : entersB Try.prog 135 = true := by kernel_rfl
theorem e_137 : entersB Try.prog 137 = true := by kernel_rfl
theorem e_138 : entersB Try.prog 138 = true := by kernel_rfl
theorem e_139 : entersB Try.prog 139 = true := by kernel_rfl
theorem e_140 : entersB Try.prog 140 = true := by kernel_rfl
theorem e_141 : entersB Try.prog 141 = true := by kernel_rfl
theorem e_142 : entersB Try.prog 142 = true := by kernel_rfl
theorem e_143 : entersB Try.prog 143 = true := by kernel_rfl
end Go.Proofs.YtfdfphaiefbflaaC
