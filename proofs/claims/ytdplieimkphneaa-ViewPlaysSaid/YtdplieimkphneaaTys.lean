/- The types of the program, as the walk reads them. -/
import Derived.Test.YtdplieimkphneaaEp
import Derived.KernelRfl
namespace Go.Proofs.Ytdplieimkphneaa
open Go.RowKit
set_option linter.unusedSimpArgs false
set_option linter.unusedVariables false
set_option linter.unusedSectionVars false
set_option maxHeartbeats 4000000
set_option maxRecDepth 100000

theorem ty_0 : ty Try.prog 0 = { kind := 11 } := by kernel_rfl
theorem ty_1 : ty Try.prog 1 = { kind := 9, size := 1, bytes := 8, zero := [V.raw Value.nilFunc] } := by kernel_rfl
theorem ty_2 : ty Try.prog 2 = { kind := 2, size := 1, bytes := 8, ik := some IntKind.i64, zero := [V.int IntKind.i64 0] } := by kernel_rfl
theorem ty_3 : ty Try.prog 3 = { kind := 2, size := 1, bytes := 8, ik := some IntKind.i64, zero := [V.int IntKind.i64 0] } := by kernel_rfl
theorem ty_4 : ty Try.prog 4 = { kind := 1, size := 1, bytes := 1, zero := [V.bool false] } := by kernel_rfl
theorem ty_5 : ty Try.prog 5 = { kind := 2, size := 1, bytes := 1, ik := some IntKind.u8, zero := [V.int IntKind.u8 0] } := by kernel_rfl
theorem ty_6 : ty Try.prog 6 = { kind := 2, size := 1, bytes := 1, ik := some IntKind.u8, zero := [V.int IntKind.u8 0] } := by kernel_rfl
theorem ty_7 : ty Try.prog 7 = { kind := 6, size := 4, bytes := 24, agg := true, offs := [(0, 2), (1, 3), (2, 4), (3, 6)], zero := [V.int IntKind.i64 0, V.int IntKind.i64 0, V.bool false, V.int IntKind.u8 0] } := by kernel_rfl
theorem ty_8 : ty Try.prog 8 = { kind := 6, size := 4, bytes := 24, agg := true, offs := [(0, 2), (1, 3), (2, 4), (3, 6)], zero := [V.int IntKind.i64 0, V.int IntKind.i64 0, V.bool false, V.int IntKind.u8 0] } := by kernel_rfl
theorem ty_9 : ty Try.prog 9 = { kind := 3, size := 1, bytes := 16, zero := [V.str []] } := by kernel_rfl
theorem ty_10 : ty Try.prog 10 = { kind := 3, size := 1, bytes := 16, zero := [V.str []] } := by kernel_rfl
theorem ty_11 : ty Try.prog 11 = { kind := 3, size := 1, bytes := 16, zero := [V.str []] } := by kernel_rfl
theorem ty_12 : ty Try.prog 12 = { kind := 2, size := 1, bytes := 8, ik := some IntKind.u64, zero := [V.int IntKind.u64 0] } := by kernel_rfl
theorem ty_13 : ty Try.prog 13 = { kind := 6, size := 2, bytes := 24, agg := true, offs := [(0, 9), (1, 12)], zero := [V.str [], V.int IntKind.u64 0] } := by kernel_rfl
theorem ty_14 : ty Try.prog 14 = { kind := 6, size := 2, bytes := 24, agg := true, offs := [(0, 9), (1, 12)], zero := [V.str [], V.int IntKind.u64 0] } := by kernel_rfl
theorem ty_15 : ty Try.prog 15 = { kind := 7, size := 1, bytes := 8, elem := 89, zero := [V.raw (Value.pointer none)] } := by kernel_rfl
theorem ty_16 : ty Try.prog 16 = { kind := 7, size := 1, bytes := 8, elem := 92, zero := [V.raw (Value.pointer none)] } := by kernel_rfl
theorem ty_17 : ty Try.prog 17 = { kind := 7, size := 1, bytes := 8, elem := 102, zero := [V.raw (Value.pointer none)] } := by kernel_rfl
theorem ty_18 : ty Try.prog 18 = { kind := 6, size := 1, bytes := 8, agg := true, offs := [(0, 17)], zero := [V.raw (Value.pointer none)] } := by kernel_rfl
theorem ty_19 : ty Try.prog 19 = { kind := 6, size := 1, bytes := 8, agg := true, offs := [(0, 17)], zero := [V.raw (Value.pointer none)] } := by kernel_rfl
theorem ty_20 : ty Try.prog 20 = { kind := 10, size := 1, bytes := 16, zero := [V.raw Value.nilIface] } := by kernel_rfl
theorem ty_21 : ty Try.prog 21 = { kind := 2, size := 1, bytes := 4, ik := some IntKind.i32, zero := [V.int IntKind.i32 0] } := by kernel_rfl
theorem ty_22 : ty Try.prog 22 = { kind := 4, size := 1, bytes := 24, elem := 33, zero := [V.gs (Value.slice none 0 0) []] } := by kernel_rfl
theorem ty_23 : ty Try.prog 23 = { kind := 9, size := 1, bytes := 8, zero := [V.raw Value.nilFunc] } := by kernel_rfl
theorem ty_24 : ty Try.prog 24 = { kind := 5, size := 2, bytes := 16, agg := true, elem := 3, len := 2, zero := [V.int IntKind.i64 0, V.int IntKind.i64 0] } := by kernel_rfl
theorem ty_25 : ty Try.prog 25 = { kind := 9, size := 1, bytes := 8, zero := [V.raw Value.nilFunc] } := by kernel_rfl
theorem ty_26 : ty Try.prog 26 = { kind := 4, size := 1, bytes := 24, elem := 24, zero := [V.gs (Value.slice none 0 0) []] } := by kernel_rfl
theorem ty_27 : ty Try.prog 27 = { kind := 7, size := 1, bytes := 8, elem := 71, zero := [V.raw (Value.pointer none)] } := by kernel_rfl
theorem ty_28 : ty Try.prog 28 = { kind := 9, size := 1, bytes := 8, zero := [V.raw Value.nilFunc] } := by kernel_rfl
theorem ty_29 : ty Try.prog 29 = { kind := 7, size := 1, bytes := 8, elem := 74, zero := [V.raw (Value.pointer none)] } := by kernel_rfl
theorem ty_30 : ty Try.prog 30 = { kind := 9, size := 1, bytes := 8, zero := [V.raw Value.nilFunc] } := by kernel_rfl
theorem ty_31 : ty Try.prog 31 = { kind := 4, size := 1, bytes := 24, elem := 41, zero := [V.gs (Value.slice none 0 0) []] } := by kernel_rfl
theorem ty_32 : ty Try.prog 32 = { kind := 6, size := 5, bytes := 56, agg := true, offs := [(0, 3), (1, 3), (2, 3), (3, 31), (4, 4)], zero := [V.int IntKind.i64 0, V.int IntKind.i64 0, V.int IntKind.i64 0, V.gs (Value.slice none 0 0) [], V.bool false] } := by kernel_rfl
theorem ty_33 : ty Try.prog 33 = { kind := 6, size := 5, bytes := 56, agg := true, offs := [(0, 3), (1, 3), (2, 3), (3, 31), (4, 4)], zero := [V.int IntKind.i64 0, V.int IntKind.i64 0, V.int IntKind.i64 0, V.gs (Value.slice none 0 0) [], V.bool false] } := by kernel_rfl
theorem ty_34 : ty Try.prog 34 = { kind := 9, size := 1, bytes := 8, zero := [V.raw Value.nilFunc] } := by kernel_rfl
theorem ty_35 : ty Try.prog 35 = { kind := 9, size := 1, bytes := 8, zero := [V.raw Value.nilFunc] } := by kernel_rfl
theorem ty_36 : ty Try.prog 36 = { kind := 9, size := 1, bytes := 8, zero := [V.raw Value.nilFunc] } := by kernel_rfl
theorem ty_37 : ty Try.prog 37 = { kind := 9, size := 1, bytes := 8, zero := [V.raw Value.nilFunc] } := by kernel_rfl
theorem ty_38 : ty Try.prog 38 = { kind := 9, size := 1, bytes := 8, zero := [V.raw Value.nilFunc] } := by kernel_rfl
theorem ty_39 : ty Try.prog 39 = { kind := 2, size := 1, bytes := 1, ik := some IntKind.i8, zero := [V.int IntKind.i8 0] } := by kernel_rfl
theorem ty_40 : ty Try.prog 40 = { kind := 6, size := 2, bytes := 16, agg := true, offs := [(0, 3), (1, 3)], zero := [V.int IntKind.i64 0, V.int IntKind.i64 0] } := by kernel_rfl
theorem ty_41 : ty Try.prog 41 = { kind := 6, size := 2, bytes := 16, agg := true, offs := [(0, 3), (1, 3)], zero := [V.int IntKind.i64 0, V.int IntKind.i64 0] } := by kernel_rfl
theorem ty_42 : ty Try.prog 42 = { kind := 9, size := 1, bytes := 8, zero := [V.raw Value.nilFunc] } := by kernel_rfl
theorem ty_43 : ty Try.prog 43 = { kind := 4, size := 1, bytes := 24, elem := 5, zero := [V.gs (Value.slice none 0 0) []] } := by kernel_rfl
theorem ty_44 : ty Try.prog 44 = { kind := 9, size := 1, bytes := 8, zero := [V.raw Value.nilFunc] } := by kernel_rfl
theorem ty_45 : ty Try.prog 45 = { kind := 6, size := 3, bytes := 24, agg := true, offs := [(0, 2), (1, 2), (2, 3)], zero := [V.int IntKind.i64 0, V.int IntKind.i64 0, V.int IntKind.i64 0] } := by kernel_rfl
theorem ty_46 : ty Try.prog 46 = { kind := 6, size := 3, bytes := 24, agg := true, offs := [(0, 2), (1, 2), (2, 3)], zero := [V.int IntKind.i64 0, V.int IntKind.i64 0, V.int IntKind.i64 0] } := by kernel_rfl
theorem ty_47 : ty Try.prog 47 = { kind := 9, size := 1, bytes := 8, zero := [V.raw Value.nilFunc] } := by kernel_rfl
theorem ty_48 : ty Try.prog 48 = { kind := 9, size := 1, bytes := 8, zero := [V.raw Value.nilFunc] } := by kernel_rfl
theorem ty_49 : ty Try.prog 49 = { kind := 4, size := 1, bytes := 24, elem := 56, zero := [V.gs (Value.slice none 0 0) []] } := by kernel_rfl
theorem ty_50 : ty Try.prog 50 = { kind := 7, size := 1, bytes := 8, elem := 82, zero := [V.raw (Value.pointer none)] } := by kernel_rfl
theorem ty_51 : ty Try.prog 51 = { kind := 9, size := 1, bytes := 8, zero := [V.raw Value.nilFunc] } := by kernel_rfl
theorem ty_52 : ty Try.prog 52 = { kind := 7, size := 1, bytes := 8, elem := 54, zero := [V.raw (Value.pointer none)] } := by kernel_rfl
theorem ty_53 : ty Try.prog 53 = { kind := 6, size := 3, bytes := 24, agg := true, offs := [(0, 46)], zero := [V.int IntKind.i64 0, V.int IntKind.i64 0, V.int IntKind.i64 0] } := by kernel_rfl
theorem ty_54 : ty Try.prog 54 = { kind := 6, size := 3, bytes := 24, agg := true, offs := [(0, 46)], zero := [V.int IntKind.i64 0, V.int IntKind.i64 0, V.int IntKind.i64 0] } := by kernel_rfl
theorem ty_55 : ty Try.prog 55 = { kind := 6, size := 5, bytes := 40, agg := true, offs := [(0, 4), (1, 2), (2, 46)], zero := [V.bool false, V.int IntKind.i64 0, V.int IntKind.i64 0, V.int IntKind.i64 0, V.int IntKind.i64 0] } := by kernel_rfl
theorem ty_56 : ty Try.prog 56 = { kind := 6, size := 5, bytes := 40, agg := true, offs := [(0, 4), (1, 2), (2, 46)], zero := [V.bool false, V.int IntKind.i64 0, V.int IntKind.i64 0, V.int IntKind.i64 0, V.int IntKind.i64 0] } := by kernel_rfl
theorem ty_57 : ty Try.prog 57 = { kind := 9, size := 1, bytes := 8, zero := [V.raw Value.nilFunc] } := by kernel_rfl
theorem ty_58 : ty Try.prog 58 = { kind := 9, size := 1, bytes := 8, zero := [V.raw Value.nilFunc] } := by kernel_rfl
theorem ty_59 : ty Try.prog 59 = { kind := 9, size := 1, bytes := 8, zero := [V.raw Value.nilFunc] } := by kernel_rfl
theorem ty_60 : ty Try.prog 60 = { kind := 9, size := 1, bytes := 8, zero := [V.raw Value.nilFunc] } := by kernel_rfl
theorem ty_61 : ty Try.prog 61 = { kind := 9, size := 1, bytes := 8, zero := [V.raw Value.nilFunc] } := by kernel_rfl
theorem ty_62 : ty Try.prog 62 = { kind := 4, size := 1, bytes := 24, elem := 64, zero := [V.gs (Value.slice none 0 0) []] } := by kernel_rfl
theorem ty_63 : ty Try.prog 63 = { kind := 5, size := 2, bytes := 16, agg := true, elem := 50, len := 2, zero := [V.raw (Value.pointer none), V.raw (Value.pointer none)] } := by kernel_rfl
theorem ty_64 : ty Try.prog 64 = { kind := 2, size := 1, bytes := 2, ik := some IntKind.u16, zero := [V.int IntKind.u16 0] } := by kernel_rfl
theorem ty_65 : ty Try.prog 65 = { kind := 2, size := 1, bytes := 8, ik := some IntKind.u64, zero := [V.int IntKind.u64 0] } := by kernel_rfl
theorem ty_66 : ty Try.prog 66 = { kind := 9, size := 1, bytes := 8, zero := [V.raw Value.nilFunc] } := by kernel_rfl
theorem ty_67 : ty Try.prog 67 = { kind := 4, size := 1, bytes := 24, elem := 2, zero := [V.gs (Value.slice none 0 0) []] } := by kernel_rfl
theorem ty_68 : ty Try.prog 68 = { kind := 9, size := 1, bytes := 8, zero := [V.raw Value.nilFunc] } := by kernel_rfl
theorem ty_69 : ty Try.prog 69 = { kind := 4, size := 1, bytes := 24, elem := 76, zero := [V.gs (Value.slice none 0 0) []] } := by kernel_rfl
theorem ty_70 : ty Try.prog 70 = { kind := 6, size := 2, bytes := 32, agg := true, offs := [(0, 69), (1, 3)], zero := [V.gs (Value.slice none 0 0) [], V.int IntKind.i64 0] } := by kernel_rfl
theorem ty_71 : ty Try.prog 71 = { kind := 6, size := 2, bytes := 32, agg := true, offs := [(0, 69), (1, 3)], zero := [V.gs (Value.slice none 0 0) [], V.int IntKind.i64 0] } := by kernel_rfl
theorem ty_72 : ty Try.prog 72 = { kind := 5, size := 16, bytes := 128, agg := true, elem := 3, len := 16, zero := [V.int IntKind.i64 0, V.int IntKind.i64 0, V.int IntKind.i64 0, V.int IntKind.i64 0, V.int IntKind.i64 0, V.int IntKind.i64 0, V.int IntKind.i64 0, V.int IntKind.i64 0, V.int IntKind.i64 0, V.int IntKind.i64 0, V.int IntKind.i64 0, V.int IntKind.i64 0, V.int IntKind.i64 0, V.int IntKind.i64 0, V.int IntKind.i64 0, V.int IntKind.i64 0] } := by kernel_rfl
theorem ty_73 : ty Try.prog 73 = { kind := 6, size := 34, bytes := 272, agg := true, offs := [(0, 3), (1, 3), (2, 72), (18, 72)], zero := [V.int IntKind.i64 0, V.int IntKind.i64 0, V.int IntKind.i64 0, V.int IntKind.i64 0, V.int IntKind.i64 0, V.int IntKind.i64 0, V.int IntKind.i64 0, V.int IntKind.i64 0, V.int IntKind.i64 0, V.int IntKind.i64 0, V.int IntKind.i64 0, V.int IntKind.i64 0, V.int IntKind.i64 0, V.int IntKind.i64 0, V.int IntKind.i64 0, V.int IntKind.i64 0, V.int IntKind.i64 0, V.int IntKind.i64 0, V.int IntKind.i64 0, V.int IntKind.i64 0, V.int IntKind.i64 0, V.int IntKind.i64 0, V.int IntKind.i64 0, V.int IntKind.i64 0, V.int IntKind.i64 0, V.int IntKind.i64 0, V.int IntKind.i64 0, V.int IntKind.i64 0, V.int IntKind.i64 0, V.int IntKind.i64 0, V.int IntKind.i64 0, V.int IntKind.i64 0, V.int IntKind.i64 0, V.int IntKind.i64 0] } := by kernel_rfl
theorem ty_74 : ty Try.prog 74 = { kind := 6, size := 34, bytes := 272, agg := true, offs := [(0, 3), (1, 3), (2, 72), (18, 72)], zero := [V.int IntKind.i64 0, V.int IntKind.i64 0, V.int IntKind.i64 0, V.int IntKind.i64 0, V.int IntKind.i64 0, V.int IntKind.i64 0, V.int IntKind.i64 0, V.int IntKind.i64 0, V.int IntKind.i64 0, V.int IntKind.i64 0, V.int IntKind.i64 0, V.int IntKind.i64 0, V.int IntKind.i64 0, V.int IntKind.i64 0, V.int IntKind.i64 0, V.int IntKind.i64 0, V.int IntKind.i64 0, V.int IntKind.i64 0, V.int IntKind.i64 0, V.int IntKind.i64 0, V.int IntKind.i64 0, V.int IntKind.i64 0, V.int IntKind.i64 0, V.int IntKind.i64 0, V.int IntKind.i64 0, V.int IntKind.i64 0, V.int IntKind.i64 0, V.int IntKind.i64 0, V.int IntKind.i64 0, V.int IntKind.i64 0, V.int IntKind.i64 0, V.int IntKind.i64 0, V.int IntKind.i64 0, V.int IntKind.i64 0] } := by kernel_rfl
theorem ty_75 : ty Try.prog 75 = { kind := 6, size := 2, bytes := 16, agg := true, offs := [(0, 3), (1, 3)], zero := [V.int IntKind.i64 0, V.int IntKind.i64 0] } := by kernel_rfl
theorem ty_76 : ty Try.prog 76 = { kind := 6, size := 2, bytes := 16, agg := true, offs := [(0, 3), (1, 3)], zero := [V.int IntKind.i64 0, V.int IntKind.i64 0] } := by kernel_rfl
theorem ty_77 : ty Try.prog 77 = { kind := 9, size := 1, bytes := 8, zero := [V.raw Value.nilFunc] } := by kernel_rfl
theorem ty_78 : ty Try.prog 78 = { kind := 9, size := 1, bytes := 8, zero := [V.raw Value.nilFunc] } := by kernel_rfl
theorem ty_79 : ty Try.prog 79 = { kind := 9, size := 1, bytes := 8, zero := [V.raw Value.nilFunc] } := by kernel_rfl
theorem ty_80 : ty Try.prog 80 = { kind := 9, size := 1, bytes := 8, zero := [V.raw Value.nilFunc] } := by kernel_rfl
theorem ty_81 : ty Try.prog 81 = { kind := 6, size := 3, bytes := 24, agg := true, offs := [(0, 46)], zero := [V.int IntKind.i64 0, V.int IntKind.i64 0, V.int IntKind.i64 0] } := by kernel_rfl
theorem ty_82 : ty Try.prog 82 = { kind := 6, size := 3, bytes := 24, agg := true, offs := [(0, 46)], zero := [V.int IntKind.i64 0, V.int IntKind.i64 0, V.int IntKind.i64 0] } := by kernel_rfl
theorem ty_83 : ty Try.prog 83 = { kind := 7, size := 1, bytes := 8, elem := 46, zero := [V.raw (Value.pointer none)] } := by kernel_rfl
theorem ty_84 : ty Try.prog 84 = { kind := 4, size := 1, bytes := 24, elem := 3, zero := [V.gs (Value.slice none 0 0) []] } := by kernel_rfl
theorem ty_85 : ty Try.prog 85 = { kind := 9, size := 1, bytes := 8, zero := [V.raw Value.nilFunc] } := by kernel_rfl
theorem ty_86 : ty Try.prog 86 = { kind := 9, size := 1, bytes := 8, zero := [V.raw Value.nilFunc] } := by kernel_rfl
theorem ty_87 : ty Try.prog 87 = { kind := 9, size := 1, bytes := 8, zero := [V.raw Value.nilFunc] } := by kernel_rfl
theorem ty_88 : ty Try.prog 88 = { kind := 6, size := 4, bytes := 40, agg := true, offs := [(0, 17), (1, 17), (2, 17), (3, 9)], zero := [V.raw (Value.pointer none), V.raw (Value.pointer none), V.raw (Value.pointer none), V.str []] } := by kernel_rfl
theorem ty_89 : ty Try.prog 89 = { kind := 6, size := 4, bytes := 40, agg := true, offs := [(0, 17), (1, 17), (2, 17), (3, 9)], zero := [V.raw (Value.pointer none), V.raw (Value.pointer none), V.raw (Value.pointer none), V.str []] } := by kernel_rfl
theorem ty_90 : ty Try.prog 90 = { kind := 5, agg := true, elem := 16 } := by kernel_rfl
theorem ty_91 : ty Try.prog 91 = { kind := 6, agg := true, offs := [(0, 90)] } := by kernel_rfl
theorem ty_92 : ty Try.prog 92 = { kind := 6, agg := true, offs := [(0, 90)] } := by kernel_rfl
theorem ty_93 : ty Try.prog 93 = { kind := 9, size := 1, bytes := 8, zero := [V.raw Value.nilFunc] } := by kernel_rfl
theorem ty_94 : ty Try.prog 94 = { kind := 2, size := 1, bytes := 4, ik := some IntKind.u32, zero := [V.int IntKind.u32 0] } := by kernel_rfl
theorem ty_95 : ty Try.prog 95 = { kind := 2, size := 1, bytes := 1, ik := some IntKind.u8, zero := [V.int IntKind.u8 0] } := by kernel_rfl
theorem ty_96 : ty Try.prog 96 = { kind := 2, size := 1, bytes := 1, ik := some IntKind.u8, zero := [V.int IntKind.u8 0] } := by kernel_rfl
theorem ty_97 : ty Try.prog 97 = { kind := 9, size := 1, bytes := 8, zero := [V.raw Value.nilFunc] } := by kernel_rfl
theorem ty_98 : ty Try.prog 98 = { kind := 7, size := 1, bytes := 8, elem := 5, zero := [V.raw (Value.pointer none)] } := by kernel_rfl
theorem ty_99 : ty Try.prog 99 = { kind := 2, size := 1, bytes := 4, ik := some IntKind.i32, zero := [V.int IntKind.i32 0] } := by kernel_rfl
theorem ty_100 : ty Try.prog 100 = { kind := 2, size := 1, bytes := 4, ik := some IntKind.i32, zero := [V.int IntKind.i32 0] } := by kernel_rfl
theorem ty_101 : ty Try.prog 101 = { kind := 6, size := 11, bytes := 48, agg := true, offs := [(0, 12), (1, 12), (2, 94), (3, 95), (4, 5), (5, 5), (6, 96), (7, 97), (8, 98), (9, 99), (10, 100)], zero := [V.int IntKind.u64 0, V.int IntKind.u64 0, V.int IntKind.u32 0, V.int IntKind.u8 0, V.int IntKind.u8 0, V.int IntKind.u8 0, V.int IntKind.u8 0, V.raw Value.nilFunc, V.raw (Value.pointer none), V.int IntKind.i32 0, V.int IntKind.i32 0] } := by kernel_rfl
theorem ty_102 : ty Try.prog 102 = { kind := 6, size := 11, bytes := 48, agg := true, offs := [(0, 12), (1, 12), (2, 94), (3, 95), (4, 5), (5, 5), (6, 96), (7, 97), (8, 98), (9, 99), (10, 100)], zero := [V.int IntKind.u64 0, V.int IntKind.u64 0, V.int IntKind.u32 0, V.int IntKind.u8 0, V.int IntKind.u8 0, V.int IntKind.u8 0, V.int IntKind.u8 0, V.raw Value.nilFunc, V.raw (Value.pointer none), V.int IntKind.i32 0, V.int IntKind.i32 0] } := by kernel_rfl
theorem ty_103 : ty Try.prog 103 = { kind := 11 } := by kernel_rfl
theorem eqT_41 : eqT Try.prog 41 = some [2, 2] := by kernel_rfl
theorem eqT_46 : eqT Try.prog 46 = some [2, 2, 2] := by kernel_rfl
end Go.Proofs.Ytdplieimkphneaa
