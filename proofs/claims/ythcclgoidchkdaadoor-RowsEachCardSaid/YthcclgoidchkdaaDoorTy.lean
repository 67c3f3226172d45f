/- The types of this translation, in the calculus of YthcclgoidchkdaaDoorCoreA: each fact off the tables, by the kernel. -/
import Derived.Test.YthcclgoidchkdaaDoorCoreL
import Derived.Test.YthcclgoidchkdaaDoorProg
set_option linter.unusedVariables false
namespace Go.Proofs.YthcclgoidchkdaaDoorC
open Go.RowKit
theorem mixed : Tryd.prog.follows .mixedOrders = true := by kernel_rfl
theorem p_3 : plainT Tryd.prog 3 := ⟨by kernel_rfl, by kernel_rfl⟩
theorem z_3 : zeroT Tryd.prog 3 [.int .i64 0] := by unfold zeroT; kernel_rfl
theorem ui_3 : Tryd.prog.underlying 3 = some (.int .i64) := by kernel_rfl
theorem p_4 : plainT Tryd.prog 4 := ⟨by kernel_rfl, by kernel_rfl⟩
theorem z_4 : zeroT Tryd.prog 4 [.bool false] := by unfold zeroT; kernel_rfl
theorem ub_4 : Tryd.prog.underlying 4 = some .bool := by kernel_rfl
theorem p_5 : plainT Tryd.prog 5 := ⟨by kernel_rfl, by kernel_rfl⟩
theorem ui_5 : Tryd.prog.underlying 5 = some (.int .u8) := by kernel_rfl
theorem p_9 : plainT Tryd.prog 9 := ⟨by kernel_rfl, by kernel_rfl⟩
theorem us_9 : Tryd.prog.underlying 9 = some .string := by kernel_rfl
theorem p_23 : plainT Tryd.prog 23 := ⟨by kernel_rfl, by kernel_rfl⟩
theorem sl_23 : SliceT Tryd.prog 23 5 1 1 [.int .u8 0] := ⟨by kernel_rfl, by kernel_rfl⟩
theorem p_25 : plainT Tryd.prog 25 := ⟨by kernel_rfl, by kernel_rfl⟩
theorem sl_25 : SliceT Tryd.prog 25 38 15 152 [.int .i64 0, .int .i64 0, .int .i64 0, .int .i64 0, .string ⟨#[]⟩, .string ⟨#[]⟩, .bool false, .int .i64 0, .int .i64 0, .int .i64 0, .string ⟨#[]⟩, .string ⟨#[]⟩, .bool false, .int .i64 0, .int .i64 0] := ⟨by kernel_rfl, by kernel_rfl⟩
theorem s_29 : structT Tryd.prog 29 5 := ⟨by kernel_rfl, by kernel_rfl⟩
theorem z_29 : zeroT Tryd.prog 29 [.int .i64 0, .int .i64 0, .string ⟨#[]⟩, .string ⟨#[]⟩, .bool false] := by unfold zeroT; kernel_rfl
theorem eg_29 : Tryd.prog.eqGuardType Tryd.prog.depth 29 = false := by kernel_rfl
theorem sh_29 : Tryd.prog.stoodInHeld 29 = false := by kernel_rfl
theorem fs_29 : fieldsT Tryd.prog 29 = [("Kind", 3, 0), ("Sub", 3, 1), ("Text", 9, 2), ("Payload", 9, 3), ("Keep", 4, 4)] := by kernel_rfl
theorem b_29 : BuildT Tryd.prog 29 [(0, 1), (1, 1), (2, 1), (3, 1), (4, 1)] [.int .i64 0, .int .i64 0, .string ⟨#[]⟩, .string ⟨#[]⟩, .bool false] := ⟨by kernel_rfl, by kernel_rfl, by kernel_rfl, by kernel_rfl⟩
theorem p_30 : plainT Tryd.prog 30 := ⟨by kernel_rfl, by kernel_rfl⟩
theorem s_32 : structT Tryd.prog 32 3 := ⟨by kernel_rfl, by kernel_rfl⟩
theorem eg_32 : Tryd.prog.eqGuardType Tryd.prog.depth 32 = false := by kernel_rfl
theorem sh_32 : Tryd.prog.stoodInHeld 32 = false := by kernel_rfl
theorem fs_32 : fieldsT Tryd.prog 32 = [("Topic", 9, 0), ("Payload", 9, 1), ("Kept", 4, 2)] := by kernel_rfl
theorem b_32 : BuildT Tryd.prog 32 [(0, 1), (1, 1), (2, 1)] [.string ⟨#[]⟩, .string ⟨#[]⟩, .bool false] := ⟨by kernel_rfl, by kernel_rfl, by kernel_rfl, by kernel_rfl⟩
theorem s_34 : structT Tryd.prog 34 6 := ⟨by kernel_rfl, by kernel_rfl⟩
theorem b_34 : BuildT Tryd.prog 34 [(0, 1), (1, 1), (2, 1), (3, 3)] [.int .i64 0, .int .i64 0, .int .i64 0, .string ⟨#[]⟩, .string ⟨#[]⟩, .bool false] := ⟨by kernel_rfl, by kernel_rfl, by kernel_rfl, by kernel_rfl⟩
theorem s_38 : structT Tryd.prog 38 15 := ⟨by kernel_rfl, by kernel_rfl⟩
theorem z_38 : zeroT Tryd.prog 38 [.int .i64 0, .int .i64 0, .int .i64 0, .int .i64 0, .string ⟨#[]⟩, .string ⟨#[]⟩, .bool false, .int .i64 0, .int .i64 0, .int .i64 0, .string ⟨#[]⟩, .string ⟨#[]⟩, .bool false, .int .i64 0, .int .i64 0] := by unfold zeroT; kernel_rfl
theorem b_38 : BuildT Tryd.prog 38 [(0, 1), (1, 1), (2, 5), (7, 6), (13, 1), (14, 1)] [.int .i64 0, .int .i64 0, .int .i64 0, .int .i64 0, .string ⟨#[]⟩, .string ⟨#[]⟩, .bool false, .int .i64 0, .int .i64 0, .int .i64 0, .string ⟨#[]⟩, .string ⟨#[]⟩, .bool false, .int .i64 0, .int .i64 0] := ⟨by kernel_rfl, by kernel_rfl, by kernel_rfl, by kernel_rfl⟩
theorem sl_39 : SliceT Tryd.prog 39 3 1 8 [.int .i64 0] := ⟨by kernel_rfl, by kernel_rfl⟩
theorem uf_64 : (match Tryd.prog.underlying 64 with | some (.func ..) => true | _ => false) = true := by kernel_rfl
theorem sl_68 : SliceT Tryd.prog 68 9 1 16 [.string ⟨#[]⟩] := ⟨by kernel_rfl, by kernel_rfl⟩
theorem z_144 : zeroT Tryd.prog 144 [.pointer none, .slice none 0 0] := by unfold zeroT; kernel_rfl
theorem f_29_0 : FieldT Tryd.prog 29 0 0 3 1 := ⟨by kernel_rfl, by kernel_rfl, by kernel_rfl⟩
theorem f_29_1 : FieldT Tryd.prog 29 1 1 3 1 := ⟨by kernel_rfl, by kernel_rfl, by kernel_rfl⟩
theorem f_29_2 : FieldT Tryd.prog 29 2 2 9 1 := ⟨by kernel_rfl, by kernel_rfl, by kernel_rfl⟩
theorem f_29_3 : FieldT Tryd.prog 29 3 3 9 1 := ⟨by kernel_rfl, by kernel_rfl, by kernel_rfl⟩
theorem f_29_4 : FieldT Tryd.prog 29 4 4 4 1 := ⟨by kernel_rfl, by kernel_rfl, by kernel_rfl⟩
theorem f_32_0 : FieldT Tryd.prog 32 0 0 9 1 := ⟨by kernel_rfl, by kernel_rfl, by kernel_rfl⟩
theorem f_32_1 : FieldT Tryd.prog 32 1 1 9 1 := ⟨by kernel_rfl, by kernel_rfl, by kernel_rfl⟩
theorem f_32_2 : FieldT Tryd.prog 32 2 2 4 1 := ⟨by kernel_rfl, by kernel_rfl, by kernel_rfl⟩
theorem f_34_0 : FieldT Tryd.prog 34 0 0 30 1 := ⟨by kernel_rfl, by kernel_rfl, by kernel_rfl⟩
theorem f_34_1 : FieldT Tryd.prog 34 1 1 3 1 := ⟨by kernel_rfl, by kernel_rfl, by kernel_rfl⟩
theorem f_34_2 : FieldT Tryd.prog 34 2 2 3 1 := ⟨by kernel_rfl, by kernel_rfl, by kernel_rfl⟩
theorem f_34_3 : FieldT Tryd.prog 34 3 3 32 3 := ⟨by kernel_rfl, by kernel_rfl, by kernel_rfl⟩
theorem f_38_0 : FieldT Tryd.prog 38 0 0 3 1 := ⟨by kernel_rfl, by kernel_rfl, by kernel_rfl⟩
theorem f_38_1 : FieldT Tryd.prog 38 1 1 3 1 := ⟨by kernel_rfl, by kernel_rfl, by kernel_rfl⟩
theorem f_38_2 : FieldT Tryd.prog 38 2 2 29 5 := ⟨by kernel_rfl, by kernel_rfl, by kernel_rfl⟩
theorem f_38_3 : FieldT Tryd.prog 38 3 7 34 6 := ⟨by kernel_rfl, by kernel_rfl, by kernel_rfl⟩
theorem f_38_4 : FieldT Tryd.prog 38 4 13 3 1 := ⟨by kernel_rfl, by kernel_rfl, by kernel_rfl⟩
theorem f_38_5 : FieldT Tryd.prog 38 5 14 3 1 := ⟨by kernel_rfl, by kernel_rfl, by kernel_rfl⟩
theorem f_144_1 : FieldT Tryd.prog 144 1 1 23 1 := ⟨by kernel_rfl, by kernel_rfl, by kernel_rfl⟩
theorem e_27 : entersB Tryd.prog 27 = true := by kernel_rfl
theorem e_28 : entersB Tryd.prog 28 = true := by kernel_rfl
theorem e_29 : entersB Tryd.prog 29 = true := by kernel_rfl
theorem e_30 : entersB Tryd.prog 30 = true := by kernel_rfl
theorem e_32 : entersB Tryd.prog 32 = true := by kernel_rfl
theorem e_43 : entersB Tryd.prog 43 = true := by kernel_rfl
theorem e_46 : entersB Tryd.prog 46 = true := by kernel_rfl
theorem e_47 : entersB Tryd.prog 47 = true := by kernel_rfl
theorem e_48 : entersB Tryd.prog 48 = true := by kernel_rfl
theorem e_49 : entersB Tryd.prog 49 = true := by kernel_rfl
theorem e_50 : entersB Tryd.prog 50 = true := by kernel_rfl
theorem e_53 : entersB Tryd.prog 53 = true := by kernel_rfl
theorem e_54 : entersB Tryd.prog 54 = true := by kernel_rfl
theorem e_55 : entersB Tryd.prog 55 = true := by kernel_rfl
theorem e_76 : entersB Tryd.prog 76 = true := by kernel_rfl
theorem e_77 : entersB Tryd.prog 77 = true := by kernel_rfl
theorem e_87 : entersB Tryd.prog 87 = true := by kernel_rfl
theorem e_88 : entersB Tryd.prog 88 = true := by kernel_rfl
theorem e_91 : entersB Tryd.prog 91 = true := by kernel_rfl
theorem e_92 : entersB Tryd.prog 92 = true := by kernel_rfl
theorem e_93 : entersB Tryd.prog 93 = true := by kernel_rfl
theorem e_94 : entersB Tryd.prog 94 = true := by kernel_rfl
theorem e_95 : entersB Tryd.prog 95 = true := by kernel_rfl
theorem e_96 : entersB Tryd.prog 96 = true := by kernel_rfl
theorem e_98 : entersB Tryd.prog 98 = true := by kernel_rfl
theorem e_102 : entersB Tryd.prog 102 = true := by kernel_rfl
theorem e_140 : entersB Tryd.prog 140 = true := by kernel_rfl
end Go.Proofs.YthcclgoidchkdaaDoorC
