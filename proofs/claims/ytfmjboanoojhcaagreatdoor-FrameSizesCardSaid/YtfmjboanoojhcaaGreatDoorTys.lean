/- The types of the program, as the walk reads them. -/
import Derived.Test.YtfmjboanoojhcaaGreatDoorEa
import Derived.KernelRfl
namespace Go.Proofs.YtfmjboanoojhcaaGreatDoor
open Go.RowKit
set_option linter.unusedSimpArgs false
set_option linter.unusedVariables false
set_option linter.unusedSectionVars false
set_option maxHeartbeats 4000000
set_option maxRecDepth 100000

theorem ty_0 : ty Tryz.prog 0 = { kind := 11 } := by kernel_rfl
theorem ty_1 : ty Tryz.prog 1 = { kind := 9, size := 1, bytes := 8, zero := [V.raw Value.nilFunc] } := by kernel_rfl
theorem ty_2 : ty Tryz.prog 2 = { kind := 2, size := 1, bytes := 8, ik := some IntKind.i64, zero := [V.int IntKind.i64 0] } := by kernel_rfl
theorem ty_3 : ty Tryz.prog 3 = { kind := 2, size := 1, bytes := 8, ik := some IntKind.i64, zero := [V.int IntKind.i64 0] } := by kernel_rfl
theorem ty_4 : ty Tryz.prog 4 = { kind := 1, size := 1, bytes := 1, zero := [V.bool false] } := by kernel_rfl
theorem ty_5 : ty Tryz.prog 5 = { kind := 2, size := 1, bytes := 1, ik := some IntKind.u8, zero := [V.int IntKind.u8 0] } := by kernel_rfl
theorem ty_6 : ty Tryz.prog 6 = { kind := 2, size := 1, bytes := 1, ik := some IntKind.u8, zero := [V.int IntKind.u8 0] } := by kernel_rfl
theorem ty_7 : ty Tryz.prog 7 = { kind := 6, size := 4, bytes := 24, agg := true, offs := [(0, 2), (1, 3), (2, 4), (3, 6)], zero := [V.int IntKind.i64 0, V.int IntKind.i64 0, V.bool false, V.int IntKind.u8 0] } := by kernel_rfl
theorem ty_8 : ty Tryz.prog 8 = { kind := 6, size := 4, bytes := 24, agg := true, offs := [(0, 2), (1, 3), (2, 4), (3, 6)], zero := [V.int IntKind.i64 0, V.int IntKind.i64 0, V.bool false, V.int IntKind.u8 0] } := by kernel_rfl
theorem ty_9 : ty Tryz.prog 9 = { kind := 3, size := 1, bytes := 16, zero := [V.str []] } := by kernel_rfl
theorem ty_10 : ty Tryz.prog 10 = { kind := 3, size := 1, bytes := 16, zero := [V.str []] } := by kernel_rfl
theorem ty_11 : ty Tryz.prog 11 = { kind := 3, size := 1, bytes := 16, zero := [V.str []] } := by kernel_rfl
theorem ty_12 : ty Tryz.prog 12 = { kind := 2, size := 1, bytes := 8, ik := some IntKind.u64, zero := [V.int IntKind.u64 0] } := by kernel_rfl
theorem ty_13 : ty Tryz.prog 13 = { kind := 6, size := 2, bytes := 24, agg := true, offs := [(0, 9), (1, 12)], zero := [V.str [], V.int IntKind.u64 0] } := by kernel_rfl
theorem ty_14 : ty Tryz.prog 14 = { kind := 6, size := 2, bytes := 24, agg := true, offs := [(0, 9), (1, 12)], zero := [V.str [], V.int IntKind.u64 0] } := by kernel_rfl
theorem ty_15 : ty Tryz.prog 15 = { kind := 7, size := 1, bytes := 8, elem := 289, zero := [V.raw (Value.pointer none)] } := by kernel_rfl
theorem ty_16 : ty Tryz.prog 16 = { kind := 7, size := 1, bytes := 8, elem := 292, zero := [V.raw (Value.pointer none)] } := by kernel_rfl
theorem ty_17 : ty Tryz.prog 17 = { kind := 7, size := 1, bytes := 8, elem := 299, zero := [V.raw (Value.pointer none)] } := by kernel_rfl
theorem ty_18 : ty Tryz.prog 18 = { kind := 6, size := 1, bytes := 8, agg := true, offs := [(0, 17)], zero := [V.raw (Value.pointer none)] } := by kernel_rfl
theorem ty_19 : ty Tryz.prog 19 = { kind := 6, size := 1, bytes := 8, agg := true, offs := [(0, 17)], zero := [V.raw (Value.pointer none)] } := by kernel_rfl
theorem ty_20 : ty Tryz.prog 20 = { kind := 10, size := 1, bytes := 16, zero := [V.raw Value.nilIface] } := by kernel_rfl
theorem ty_21 : ty Tryz.prog 21 = { kind := 2, size := 1, bytes := 4, ik := some IntKind.i32, zero := [V.int IntKind.i32 0] } := by kernel_rfl
theorem ty_22 : ty Tryz.prog 22 = { kind := 4, size := 1, bytes := 24, elem := 51, zero := [V.gs (Value.slice none 0 0) []] } := by kernel_rfl
theorem ty_23 : ty Tryz.prog 23 = { kind := 4, size := 1, bytes := 24, elem := 58, zero := [V.gs (Value.slice none 0 0) []] } := by kernel_rfl
theorem ty_24 : ty Tryz.prog 24 = { kind := 4, size := 1, bytes := 24, elem := 87, zero := [V.gs (Value.slice none 0 0) []] } := by kernel_rfl
theorem ty_25 : ty Tryz.prog 25 = { kind := 4, size := 1, bytes := 24, elem := 60, zero := [V.gs (Value.slice none 0 0) []] } := by kernel_rfl
theorem ty_26 : ty Tryz.prog 26 = { kind := 4, size := 1, bytes := 24, elem := 64, zero := [V.gs (Value.slice none 0 0) []] } := by kernel_rfl
theorem ty_27 : ty Tryz.prog 27 = { kind := 6, size := 4, bytes := 96, agg := true, offs := [(0, 23), (1, 24), (2, 25), (3, 26)], zero := [V.gs (Value.slice none 0 0) [], V.gs (Value.slice none 0 0) [], V.gs (Value.slice none 0 0) [], V.gs (Value.slice none 0 0) []] } := by kernel_rfl
theorem ty_28 : ty Tryz.prog 28 = { kind := 6, size := 4, bytes := 96, agg := true, offs := [(0, 23), (1, 24), (2, 25), (3, 26)], zero := [V.gs (Value.slice none 0 0) [], V.gs (Value.slice none 0 0) [], V.gs (Value.slice none 0 0) [], V.gs (Value.slice none 0 0) []] } := by kernel_rfl
theorem ty_29 : ty Tryz.prog 29 = { kind := 4, size := 1, bytes := 24, elem := 5, zero := [V.gs (Value.slice none 0 0) []] } := by kernel_rfl
theorem ty_30 : ty Tryz.prog 30 = { kind := 6, size := 4, bytes := 56, agg := true, offs := [(0, 9), (1, 29), (2, 3), (3, 4)], zero := [V.str [], V.gs (Value.slice none 0 0) [], V.int IntKind.i64 0, V.bool false] } := by kernel_rfl
theorem ty_31 : ty Tryz.prog 31 = { kind := 6, size := 4, bytes := 56, agg := true, offs := [(0, 9), (1, 29), (2, 3), (3, 4)], zero := [V.str [], V.gs (Value.slice none 0 0) [], V.int IntKind.i64 0, V.bool false] } := by kernel_rfl
theorem ty_32 : ty Tryz.prog 32 = { kind := 6, size := 15, bytes := 240, agg := true, offs := [(0, 3), (1, 3), (2, 3), (3, 3), (4, 22), (5, 23), (6, 28), (10, 3), (11, 31)], zero := [V.int IntKind.i64 0, V.int IntKind.i64 0, V.int IntKind.i64 0, V.int IntKind.i64 0, V.gs (Value.slice none 0 0) [], V.gs (Value.slice none 0 0) [], V.gs (Value.slice none 0 0) [], V.gs (Value.slice none 0 0) [], V.gs (Value.slice none 0 0) [], V.gs (Value.slice none 0 0) [], V.int IntKind.i64 0, V.str [], V.gs (Value.slice none 0 0) [], V.int IntKind.i64 0, V.bool false] } := by kernel_rfl
theorem ty_33 : ty Tryz.prog 33 = { kind := 6, size := 15, bytes := 240, agg := true, offs := [(0, 3), (1, 3), (2, 3), (3, 3), (4, 22), (5, 23), (6, 28), (10, 3), (11, 31)], zero := [V.int IntKind.i64 0, V.int IntKind.i64 0, V.int IntKind.i64 0, V.int IntKind.i64 0, V.gs (Value.slice none 0 0) [], V.gs (Value.slice none 0 0) [], V.gs (Value.slice none 0 0) [], V.gs (Value.slice none 0 0) [], V.gs (Value.slice none 0 0) [], V.gs (Value.slice none 0 0) [], V.int IntKind.i64 0, V.str [], V.gs (Value.slice none 0 0) [], V.int IntKind.i64 0, V.bool false] } := by kernel_rfl
theorem ty_34 : ty Tryz.prog 34 = { kind := 4, size := 1, bytes := 24, elem := 91, zero := [V.gs (Value.slice none 0 0) []] } := by kernel_rfl
theorem ty_35 : ty Tryz.prog 35 = { kind := 9, size := 1, bytes := 8, zero := [V.raw Value.nilFunc] } := by kernel_rfl
theorem ty_36 : ty Tryz.prog 36 = { kind := 9, size := 1, bytes := 8, zero := [V.raw Value.nilFunc] } := by kernel_rfl
theorem ty_37 : ty Tryz.prog 37 = { kind := 9, size := 1, bytes := 8, zero := [V.raw Value.nilFunc] } := by kernel_rfl
theorem ty_38 : ty Tryz.prog 38 = { kind := 9, size := 1, bytes := 8, zero := [V.raw Value.nilFunc] } := by kernel_rfl
theorem ty_39 : ty Tryz.prog 39 = { kind := 9, size := 1, bytes := 8, zero := [V.raw Value.nilFunc] } := by kernel_rfl
theorem ty_40 : ty Tryz.prog 40 = { kind := 4, size := 1, bytes := 24, elem := 33, zero := [V.gs (Value.slice none 0 0) []] } := by kernel_rfl
theorem ty_41 : ty Tryz.prog 41 = { kind := 2, size := 1, bytes := 8, ik := some IntKind.i64, zero := [V.int IntKind.i64 0] } := by kernel_rfl
theorem ty_42 : ty Tryz.prog 42 = { kind := 11 } := by kernel_rfl
theorem ty_43 : ty Tryz.prog 43 = { kind := 9, size := 1, bytes := 8, zero := [V.raw Value.nilFunc] } := by kernel_rfl
theorem ty_44 : ty Tryz.prog 44 = { kind := 11 } := by kernel_rfl
theorem ty_45 : ty Tryz.prog 45 = { kind := 9, size := 1, bytes := 8, zero := [V.raw Value.nilFunc] } := by kernel_rfl
theorem ty_46 : ty Tryz.prog 46 = { kind := 11 } := by kernel_rfl
theorem ty_47 : ty Tryz.prog 47 = { kind := 9, size := 1, bytes := 8, zero := [V.raw Value.nilFunc] } := by kernel_rfl
theorem ty_48 : ty Tryz.prog 48 = { kind := 9, size := 1, bytes := 8, zero := [V.raw Value.nilFunc] } := by kernel_rfl
theorem ty_49 : ty Tryz.prog 49 = { kind := 9, size := 1, bytes := 8, zero := [V.raw Value.nilFunc] } := by kernel_rfl
theorem ty_50 : ty Tryz.prog 50 = { kind := 2, size := 1, bytes := 2, ik := some IntKind.u16, zero := [V.int IntKind.u16 0] } := by kernel_rfl
theorem ty_51 : ty Tryz.prog 51 = { kind := 2, size := 1, bytes := 8, ik := some IntKind.u64, zero := [V.int IntKind.u64 0] } := by kernel_rfl
theorem ty_52 : ty Tryz.prog 52 = { kind := 9, size := 1, bytes := 8, zero := [V.raw Value.nilFunc] } := by kernel_rfl
theorem ty_53 : ty Tryz.prog 53 = { kind := 4, size := 1, bytes := 24, elem := 29, zero := [V.gs (Value.slice none 0 0) []] } := by kernel_rfl
theorem ty_54 : ty Tryz.prog 54 = { kind := 11 } := by kernel_rfl
theorem ty_55 : ty Tryz.prog 55 = { kind := 9, size := 1, bytes := 8, zero := [V.raw Value.nilFunc] } := by kernel_rfl
theorem ty_56 : ty Tryz.prog 56 = { kind := 9, size := 1, bytes := 8, zero := [V.raw Value.nilFunc] } := by kernel_rfl
theorem ty_57 : ty Tryz.prog 57 = { kind := 6, size := 3, bytes := 24, agg := true, offs := [(0, 3), (1, 3), (2, 3)], zero := [V.int IntKind.i64 0, V.int IntKind.i64 0, V.int IntKind.i64 0] } := by kernel_rfl
theorem ty_58 : ty Tryz.prog 58 = { kind := 6, size := 3, bytes := 24, agg := true, offs := [(0, 3), (1, 3), (2, 3)], zero := [V.int IntKind.i64 0, V.int IntKind.i64 0, V.int IntKind.i64 0] } := by kernel_rfl
theorem ty_59 : ty Tryz.prog 59 = { kind := 6, size := 4, bytes := 40, agg := true, offs := [(0, 58), (3, 9)], zero := [V.int IntKind.i64 0, V.int IntKind.i64 0, V.int IntKind.i64 0, V.str []] } := by kernel_rfl
theorem ty_60 : ty Tryz.prog 60 = { kind := 6, size := 4, bytes := 40, agg := true, offs := [(0, 58), (3, 9)], zero := [V.int IntKind.i64 0, V.int IntKind.i64 0, V.int IntKind.i64 0, V.str []] } := by kernel_rfl
theorem ty_61 : ty Tryz.prog 61 = { kind := 6, size := 3, bytes := 24, agg := true, offs := [(0, 2), (1, 2), (2, 3)], zero := [V.int IntKind.i64 0, V.int IntKind.i64 0, V.int IntKind.i64 0] } := by kernel_rfl
theorem ty_62 : ty Tryz.prog 62 = { kind := 6, size := 3, bytes := 24, agg := true, offs := [(0, 2), (1, 2), (2, 3)], zero := [V.int IntKind.i64 0, V.int IntKind.i64 0, V.int IntKind.i64 0] } := by kernel_rfl
theorem ty_63 : ty Tryz.prog 63 = { kind := 6, size := 10, bytes := 104, agg := true, offs := [(0, 58), (3, 62), (6, 9), (7, 29), (8, 3), (9, 4)], zero := [V.int IntKind.i64 0, V.int IntKind.i64 0, V.int IntKind.i64 0, V.int IntKind.i64 0, V.int IntKind.i64 0, V.int IntKind.i64 0, V.str [], V.gs (Value.slice none 0 0) [], V.int IntKind.i64 0, V.bool false] } := by kernel_rfl
theorem ty_64 : ty Tryz.prog 64 = { kind := 6, size := 10, bytes := 104, agg := true, offs := [(0, 58), (3, 62), (6, 9), (7, 29), (8, 3), (9, 4)], zero := [V.int IntKind.i64 0, V.int IntKind.i64 0, V.int IntKind.i64 0, V.int IntKind.i64 0, V.int IntKind.i64 0, V.int IntKind.i64 0, V.str [], V.gs (Value.slice none 0 0) [], V.int IntKind.i64 0, V.bool false] } := by kernel_rfl
theorem ty_65 : ty Tryz.prog 65 = { kind := 9, size := 1, bytes := 8, zero := [V.raw Value.nilFunc] } := by kernel_rfl
theorem ty_66 : ty Tryz.prog 66 = { kind := 4, size := 1, bytes := 24, elem := 28, zero := [V.gs (Value.slice none 0 0) []] } := by kernel_rfl
theorem ty_67 : ty Tryz.prog 67 = { kind := 9, size := 1, bytes := 8, zero := [V.raw Value.nilFunc] } := by kernel_rfl
theorem ty_68 : ty Tryz.prog 68 = { kind := 9, size := 1, bytes := 8, zero := [V.raw Value.nilFunc] } := by kernel_rfl
theorem ty_69 : ty Tryz.prog 69 = { kind := 9, size := 1, bytes := 8, zero := [V.raw Value.nilFunc] } := by kernel_rfl
theorem ty_70 : ty Tryz.prog 70 = { kind := 9, size := 1, bytes := 8, zero := [V.raw Value.nilFunc] } := by kernel_rfl
theorem ty_71 : ty Tryz.prog 71 = { kind := 4, size := 1, bytes := 24, elem := 3, zero := [V.gs (Value.slice none 0 0) []] } := by kernel_rfl
theorem ty_72 : ty Tryz.prog 72 = { kind := 9, size := 1, bytes := 8, zero := [V.raw Value.nilFunc] } := by kernel_rfl
theorem ty_73 : ty Tryz.prog 73 = { kind := 9, size := 1, bytes := 8, zero := [V.raw Value.nilFunc] } := by kernel_rfl
theorem ty_74 : ty Tryz.prog 74 = { kind := 9, size := 1, bytes := 8, zero := [V.raw Value.nilFunc] } := by kernel_rfl
theorem ty_75 : ty Tryz.prog 75 = { kind := 9, size := 1, bytes := 8, zero := [V.raw Value.nilFunc] } := by kernel_rfl
theorem ty_76 : ty Tryz.prog 76 = { kind := 9, size := 1, bytes := 8, zero := [V.raw Value.nilFunc] } := by kernel_rfl
theorem ty_77 : ty Tryz.prog 77 = { kind := 9, size := 1, bytes := 8, zero := [V.raw Value.nilFunc] } := by kernel_rfl
theorem ty_78 : ty Tryz.prog 78 = { kind := 9, size := 1, bytes := 8, zero := [V.raw Value.nilFunc] } := by kernel_rfl
theorem ty_79 : ty Tryz.prog 79 = { kind := 9, size := 1, bytes := 8, zero := [V.raw Value.nilFunc] } := by kernel_rfl
theorem ty_80 : ty Tryz.prog 80 = { kind := 9, size := 1, bytes := 8, zero := [V.raw Value.nilFunc] } := by kernel_rfl
theorem ty_81 : ty Tryz.prog 81 = { kind := 9, size := 1, bytes := 8, zero := [V.raw Value.nilFunc] } := by kernel_rfl
theorem ty_82 : ty Tryz.prog 82 = { kind := 5, size := 8, bytes := 192, agg := true, elem := 28, len := 2, zero := [V.gs (Value.slice none 0 0) [], V.gs (Value.slice none 0 0) [], V.gs (Value.slice none 0 0) [], V.gs (Value.slice none 0 0) [], V.gs (Value.slice none 0 0) [], V.gs (Value.slice none 0 0) [], V.gs (Value.slice none 0 0) [], V.gs (Value.slice none 0 0) []] } := by kernel_rfl
theorem ty_83 : ty Tryz.prog 83 = { kind := 4, size := 1, bytes := 24, elem := 82, zero := [V.gs (Value.slice none 0 0) []] } := by kernel_rfl
theorem ty_84 : ty Tryz.prog 84 = { kind := 9, size := 1, bytes := 8, zero := [V.raw Value.nilFunc] } := by kernel_rfl
theorem ty_85 : ty Tryz.prog 85 = { kind := 9, size := 1, bytes := 8, zero := [V.raw Value.nilFunc] } := by kernel_rfl
theorem ty_86 : ty Tryz.prog 86 = { kind := 6, size := 2, bytes := 16, agg := true, offs := [(0, 3), (1, 3)], zero := [V.int IntKind.i64 0, V.int IntKind.i64 0] } := by kernel_rfl
theorem ty_87 : ty Tryz.prog 87 = { kind := 6, size := 2, bytes := 16, agg := true, offs := [(0, 3), (1, 3)], zero := [V.int IntKind.i64 0, V.int IntKind.i64 0] } := by kernel_rfl
theorem ty_88 : ty Tryz.prog 88 = { kind := 9, size := 1, bytes := 8, zero := [V.raw Value.nilFunc] } := by kernel_rfl
theorem ty_89 : ty Tryz.prog 89 = { kind := 9, size := 1, bytes := 8, zero := [V.raw Value.nilFunc] } := by kernel_rfl
theorem ty_90 : ty Tryz.prog 90 = { kind := 6, size := 4, bytes := 32, agg := true, offs := [(0, 5), (1, 5), (2, 5), (3, 29)], zero := [V.int IntKind.u8 0, V.int IntKind.u8 0, V.int IntKind.u8 0, V.gs (Value.slice none 0 0) []] } := by kernel_rfl
theorem ty_91 : ty Tryz.prog 91 = { kind := 6, size := 4, bytes := 32, agg := true, offs := [(0, 5), (1, 5), (2, 5), (3, 29)], zero := [V.int IntKind.u8 0, V.int IntKind.u8 0, V.int IntKind.u8 0, V.gs (Value.slice none 0 0) []] } := by kernel_rfl
theorem ty_92 : ty Tryz.prog 92 = { kind := 9, size := 1, bytes := 8, zero := [V.raw Value.nilFunc] } := by kernel_rfl
theorem ty_93 : ty Tryz.prog 93 = { kind := 9, size := 1, bytes := 8, zero := [V.raw Value.nilFunc] } := by kernel_rfl
theorem ty_94 : ty Tryz.prog 94 = { kind := 9, size := 1, bytes := 8, zero := [V.raw Value.nilFunc] } := by kernel_rfl
theorem ty_95 : ty Tryz.prog 95 = { kind := 9, size := 1, bytes := 8, zero := [V.raw Value.nilFunc] } := by kernel_rfl
theorem ty_96 : ty Tryz.prog 96 = { kind := 9, size := 1, bytes := 8, zero := [V.raw Value.nilFunc] } := by kernel_rfl
theorem ty_97 : ty Tryz.prog 97 = { kind := 9, size := 1, bytes := 8, zero := [V.raw Value.nilFunc] } := by kernel_rfl
theorem ty_98 : ty Tryz.prog 98 = { kind := 9, size := 1, bytes := 8, zero := [V.raw Value.nilFunc] } := by kernel_rfl
theorem ty_99 : ty Tryz.prog 99 = { kind := 9, size := 1, bytes := 8, zero := [V.raw Value.nilFunc] } := by kernel_rfl
theorem ty_100 : ty Tryz.prog 100 = { kind := 9, size := 1, bytes := 8, zero := [V.raw Value.nilFunc] } := by kernel_rfl
theorem ty_101 : ty Tryz.prog 101 = { kind := 9, size := 1, bytes := 8, zero := [V.raw Value.nilFunc] } := by kernel_rfl
theorem ty_102 : ty Tryz.prog 102 = { kind := 7, size := 1, bytes := 8, elem := 104, zero := [V.raw (Value.pointer none)] } := by kernel_rfl
theorem ty_103 : ty Tryz.prog 103 = { kind := 6, size := 2, bytes := 32, agg := true, offs := [(0, 29), (1, 4)], zero := [V.gs (Value.slice none 0 0) [], V.bool false] } := by kernel_rfl
theorem ty_104 : ty Tryz.prog 104 = { kind := 6, size := 2, bytes := 32, agg := true, offs := [(0, 29), (1, 4)], zero := [V.gs (Value.slice none 0 0) [], V.bool false] } := by kernel_rfl
theorem ty_105 : ty Tryz.prog 105 = { kind := 9, size := 1, bytes := 8, zero := [V.raw Value.nilFunc] } := by kernel_rfl
theorem ty_106 : ty Tryz.prog 106 = { kind := 9, size := 1, bytes := 8, zero := [V.raw Value.nilFunc] } := by kernel_rfl
theorem ty_107 : ty Tryz.prog 107 = { kind := 9, size := 1, bytes := 8, zero := [V.raw Value.nilFunc] } := by kernel_rfl
theorem ty_108 : ty Tryz.prog 108 = { kind := 9, size := 1, bytes := 8, zero := [V.raw Value.nilFunc] } := by kernel_rfl
theorem ty_109 : ty Tryz.prog 109 = { kind := 7, size := 1, bytes := 8, elem := 111, zero := [V.raw (Value.pointer none)] } := by kernel_rfl
theorem ty_110 : ty Tryz.prog 110 = { kind := 6, size := 2, bytes := 32, agg := true, offs := [(0, 29), (1, 4)], zero := [V.gs (Value.slice none 0 0) [], V.bool false] } := by kernel_rfl
theorem ty_111 : ty Tryz.prog 111 = { kind := 6, size := 2, bytes := 32, agg := true, offs := [(0, 29), (1, 4)], zero := [V.gs (Value.slice none 0 0) [], V.bool false] } := by kernel_rfl
theorem ty_112 : ty Tryz.prog 112 = { kind := 9, size := 1, bytes := 8, zero := [V.raw Value.nilFunc] } := by kernel_rfl
theorem ty_113 : ty Tryz.prog 113 = { kind := 9, size := 1, bytes := 8, zero := [V.raw Value.nilFunc] } := by kernel_rfl
theorem ty_114 : ty Tryz.prog 114 = { kind := 9, size := 1, bytes := 8, zero := [V.raw Value.nilFunc] } := by kernel_rfl
theorem ty_115 : ty Tryz.prog 115 = { kind := 9, size := 1, bytes := 8, zero := [V.raw Value.nilFunc] } := by kernel_rfl
theorem ty_116 : ty Tryz.prog 116 = { kind := 9, size := 1, bytes := 8, zero := [V.raw Value.nilFunc] } := by kernel_rfl
theorem ty_117 : ty Tryz.prog 117 = { kind := 9, size := 1, bytes := 8, zero := [V.raw Value.nilFunc] } := by kernel_rfl
theorem ty_118 : ty Tryz.prog 118 = { kind := 9, size := 1, bytes := 8, zero := [V.raw Value.nilFunc] } := by kernel_rfl
theorem ty_119 : ty Tryz.prog 119 = { kind := 9, size := 1, bytes := 8, zero := [V.raw Value.nilFunc] } := by kernel_rfl
theorem ty_120 : ty Tryz.prog 120 = { kind := 9, size := 1, bytes := 8, zero := [V.raw Value.nilFunc] } := by kernel_rfl
theorem ty_121 : ty Tryz.prog 121 = { kind := 11 } := by kernel_rfl
theorem ty_122 : ty Tryz.prog 122 = { kind := 9, size := 1, bytes := 8, zero := [V.raw Value.nilFunc] } := by kernel_rfl
theorem ty_123 : ty Tryz.prog 123 = { kind := 9, size := 1, bytes := 8, zero := [V.raw Value.nilFunc] } := by kernel_rfl
theorem ty_124 : ty Tryz.prog 124 = { kind := 4, size := 1, bytes := 24, elem := 9, zero := [V.gs (Value.slice none 0 0) []] } := by kernel_rfl
theorem ty_125 : ty Tryz.prog 125 = { kind := 9, size := 1, bytes := 8, zero := [V.raw Value.nilFunc] } := by kernel_rfl
theorem ty_126 : ty Tryz.prog 126 = { kind := 9, size := 1, bytes := 8, zero := [V.raw Value.nilFunc] } := by kernel_rfl
theorem ty_127 : ty Tryz.prog 127 = { kind := 7, size := 1, bytes := 8, elem := 129, zero := [V.raw (Value.pointer none)] } := by kernel_rfl
theorem ty_128 : ty Tryz.prog 128 = { kind := 6, size := 2, bytes := 32, agg := true, offs := [(0, 127), (1, 29)], zero := [V.raw (Value.pointer none), V.gs (Value.slice none 0 0) []] } := by kernel_rfl
theorem ty_129 : ty Tryz.prog 129 = { kind := 6, size := 2, bytes := 32, agg := true, offs := [(0, 127), (1, 29)], zero := [V.raw (Value.pointer none), V.gs (Value.slice none 0 0) []] } := by kernel_rfl
theorem ty_130 : ty Tryz.prog 130 = { kind := 5, size := 20, bytes := 320, agg := true, elem := 129, len := 10, zero := [V.raw (Value.pointer none), V.gs (Value.slice none 0 0) [], V.raw (Value.pointer none), V.gs (Value.slice none 0 0) [], V.raw (Value.pointer none), V.gs (Value.slice none 0 0) [], V.raw (Value.pointer none), V.gs (Value.slice none 0 0) [], V.raw (Value.pointer none), V.gs (Value.slice none 0 0) [], V.raw (Value.pointer none), V.gs (Value.slice none 0 0) [], V.raw (Value.pointer none), V.gs (Value.slice none 0 0) [], V.raw (Value.pointer none), V.gs (Value.slice none 0 0) [], V.raw (Value.pointer none), V.gs (Value.slice none 0 0) [], V.raw (Value.pointer none), V.gs (Value.slice none 0 0) []] } := by kernel_rfl
theorem ty_131 : ty Tryz.prog 131 = { kind := 9, size := 1, bytes := 8, zero := [V.raw Value.nilFunc] } := by kernel_rfl
theorem ty_132 : ty Tryz.prog 132 = { kind := 9, size := 1, bytes := 8, zero := [V.raw Value.nilFunc] } := by kernel_rfl
theorem ty_133 : ty Tryz.prog 133 = { kind := 9, size := 1, bytes := 8, zero := [V.raw Value.nilFunc] } := by kernel_rfl
theorem ty_134 : ty Tryz.prog 134 = { kind := 9, size := 1, bytes := 8, zero := [V.raw Value.nilFunc] } := by kernel_rfl
theorem ty_135 : ty Tryz.prog 135 = { kind := 9, size := 1, bytes := 8, zero := [V.raw Value.nilFunc] } := by kernel_rfl
theorem ty_136 : ty Tryz.prog 136 = { kind := 9, size := 1, bytes := 8, zero := [V.raw Value.nilFunc] } := by kernel_rfl
theorem ty_137 : ty Tryz.prog 137 = { kind := 9, size := 1, bytes := 8, zero := [V.raw Value.nilFunc] } := by kernel_rfl
theorem ty_138 : ty Tryz.prog 138 = { kind := 9, size := 1, bytes := 8, zero := [V.raw Value.nilFunc] } := by kernel_rfl
theorem ty_139 : ty Tryz.prog 139 = { kind := 9, size := 1, bytes := 8, zero := [V.raw Value.nilFunc] } := by kernel_rfl
theorem ty_140 : ty Tryz.prog 140 = { kind := 8, size := 1, bytes := 8, elem := 60, key := 143, zero := [V.raw (Value.map none)] } := by kernel_rfl
theorem ty_141 : ty Tryz.prog 141 = { kind := 9, size := 1, bytes := 8, zero := [V.raw Value.nilFunc] } := by kernel_rfl
theorem ty_142 : ty Tryz.prog 142 = { kind := 6, size := 3, bytes := 32, agg := true, offs := [(0, 3), (1, 3), (2, 9)], zero := [V.int IntKind.i64 0, V.int IntKind.i64 0, V.str []] } := by kernel_rfl
theorem ty_143 : ty Tryz.prog 143 = { kind := 6, size := 3, bytes := 32, agg := true, offs := [(0, 3), (1, 3), (2, 9)], zero := [V.int IntKind.i64 0, V.int IntKind.i64 0, V.str []] } := by kernel_rfl
theorem ty_144 : ty Tryz.prog 144 = { kind := 9, size := 1, bytes := 8, zero := [V.raw Value.nilFunc] } := by kernel_rfl
theorem ty_145 : ty Tryz.prog 145 = { kind := 9, size := 1, bytes := 8, zero := [V.raw Value.nilFunc] } := by kernel_rfl
theorem ty_146 : ty Tryz.prog 146 = { kind := 9, size := 1, bytes := 8, zero := [V.raw Value.nilFunc] } := by kernel_rfl
theorem ty_147 : ty Tryz.prog 147 = { kind := 9, size := 1, bytes := 8, zero := [V.raw Value.nilFunc] } := by kernel_rfl
theorem ty_148 : ty Tryz.prog 148 = { kind := 9, size := 1, bytes := 8, zero := [V.raw Value.nilFunc] } := by kernel_rfl
theorem ty_149 : ty Tryz.prog 149 = { kind := 9, size := 1, bytes := 8, zero := [V.raw Value.nilFunc] } := by kernel_rfl
theorem ty_150 : ty Tryz.prog 150 = { kind := 9, size := 1, bytes := 8, zero := [V.raw Value.nilFunc] } := by kernel_rfl
theorem ty_151 : ty Tryz.prog 151 = { kind := 9, size := 1, bytes := 8, zero := [V.raw Value.nilFunc] } := by kernel_rfl
theorem ty_152 : ty Tryz.prog 152 = { kind := 8, size := 1, bytes := 8, elem := 4, key := 58, zero := [V.raw (Value.map none)] } := by kernel_rfl
theorem ty_153 : ty Tryz.prog 153 = { kind := 8, size := 1, bytes := 8, elem := 4, key := 143, zero := [V.raw (Value.map none)] } := by kernel_rfl
theorem ty_154 : ty Tryz.prog 154 = { kind := 9, size := 1, bytes := 8, zero := [V.raw Value.nilFunc] } := by kernel_rfl
theorem ty_155 : ty Tryz.prog 155 = { kind := 9, size := 1, bytes := 8, zero := [V.raw Value.nilFunc] } := by kernel_rfl
theorem ty_156 : ty Tryz.prog 156 = { kind := 9, size := 1, bytes := 8, zero := [V.raw Value.nilFunc] } := by kernel_rfl
theorem ty_157 : ty Tryz.prog 157 = { kind := 5, size := 10, bytes := 160, agg := true, elem := 9, len := 10, zero := [V.str [], V.str [], V.str [], V.str [], V.str [], V.str [], V.str [], V.str [], V.str [], V.str []] } := by kernel_rfl
theorem ty_158 : ty Tryz.prog 158 = { kind := 9, size := 1, bytes := 8, zero := [V.raw Value.nilFunc] } := by kernel_rfl
theorem ty_159 : ty Tryz.prog 159 = { kind := 2, size := 1, bytes := 8, ik := some IntKind.u64, zero := [V.int IntKind.u64 0] } := by kernel_rfl
theorem ty_160 : ty Tryz.prog 160 = { kind := 9, size := 1, bytes := 8, zero := [V.raw Value.nilFunc] } := by kernel_rfl
theorem ty_161 : ty Tryz.prog 161 = { kind := 9, size := 1, bytes := 8, zero := [V.raw Value.nilFunc] } := by kernel_rfl
theorem ty_162 : ty Tryz.prog 162 = { kind := 9, size := 1, bytes := 8, zero := [V.raw Value.nilFunc] } := by kernel_rfl
theorem ty_163 : ty Tryz.prog 163 = { kind := 9, size := 1, bytes := 8, zero := [V.raw Value.nilFunc] } := by kernel_rfl
theorem ty_164 : ty Tryz.prog 164 = { kind := 9, size := 1, bytes := 8, zero := [V.raw Value.nilFunc] } := by kernel_rfl
theorem ty_165 : ty Tryz.prog 165 = { kind := 9, size := 1, bytes := 8, zero := [V.raw Value.nilFunc] } := by kernel_rfl
theorem ty_166 : ty Tryz.prog 166 = { kind := 9, size := 1, bytes := 8, zero := [V.raw Value.nilFunc] } := by kernel_rfl
theorem ty_167 : ty Tryz.prog 167 = { kind := 9, size := 1, bytes := 8, zero := [V.raw Value.nilFunc] } := by kernel_rfl
theorem ty_168 : ty Tryz.prog 168 = { kind := 9, size := 1, bytes := 8, zero := [V.raw Value.nilFunc] } := by kernel_rfl
theorem ty_169 : ty Tryz.prog 169 = { kind := 9, size := 1, bytes := 8, zero := [V.raw Value.nilFunc] } := by kernel_rfl
theorem ty_170 : ty Tryz.prog 170 = { kind := 10, size := 1, bytes := 16, zero := [V.raw Value.nilIface] } := by kernel_rfl
theorem ty_171 : ty Tryz.prog 171 = { kind := 10, size := 1, bytes := 16, zero := [V.raw Value.nilIface] } := by kernel_rfl
theorem ty_172 : ty Tryz.prog 172 = { kind := 11 } := by kernel_rfl
theorem ty_173 : ty Tryz.prog 173 = { kind := 9, size := 1, bytes := 8, zero := [V.raw Value.nilFunc] } := by kernel_rfl
theorem ty_174 : ty Tryz.prog 174 = { kind := 9, size := 1, bytes := 8, zero := [V.raw Value.nilFunc] } := by kernel_rfl
theorem ty_175 : ty Tryz.prog 175 = { kind := 9, size := 1, bytes := 8, zero := [V.raw Value.nilFunc] } := by kernel_rfl
theorem ty_176 : ty Tryz.prog 176 = { kind := 9, size := 1, bytes := 8, zero := [V.raw Value.nilFunc] } := by kernel_rfl
theorem ty_177 : ty Tryz.prog 177 = { kind := 7, size := 1, bytes := 8, elem := 5, zero := [V.raw (Value.pointer none)] } := by kernel_rfl
theorem ty_178 : ty Tryz.prog 178 = { kind := 9, size := 1, bytes := 8, zero := [V.raw Value.nilFunc] } := by kernel_rfl
theorem ty_179 : ty Tryz.prog 179 = { kind := 9, size := 1, bytes := 8, zero := [V.raw Value.nilFunc] } := by kernel_rfl
theorem ty_180 : ty Tryz.prog 180 = { kind := 9, size := 1, bytes := 8, zero := [V.raw Value.nilFunc] } := by kernel_rfl
theorem ty_181 : ty Tryz.prog 181 = { kind := 9, size := 1, bytes := 8, zero := [V.raw Value.nilFunc] } := by kernel_rfl
theorem ty_182 : ty Tryz.prog 182 = { kind := 9, size := 1, bytes := 8, zero := [V.raw Value.nilFunc] } := by kernel_rfl
theorem ty_183 : ty Tryz.prog 183 = { kind := 9, size := 1, bytes := 8, zero := [V.raw Value.nilFunc] } := by kernel_rfl
theorem ty_184 : ty Tryz.prog 184 = { kind := 9, size := 1, bytes := 8, zero := [V.raw Value.nilFunc] } := by kernel_rfl
theorem ty_185 : ty Tryz.prog 185 = { kind := 8, size := 1, bytes := 8, elem := 64, key := 9, zero := [V.raw (Value.map none)] } := by kernel_rfl
theorem ty_186 : ty Tryz.prog 186 = { kind := 11 } := by kernel_rfl
theorem ty_187 : ty Tryz.prog 187 = { kind := 9, size := 1, bytes := 8, zero := [V.raw Value.nilFunc] } := by kernel_rfl
theorem ty_188 : ty Tryz.prog 188 = { kind := 9, size := 1, bytes := 8, zero := [V.raw Value.nilFunc] } := by kernel_rfl
theorem ty_189 : ty Tryz.prog 189 = { kind := 9, size := 1, bytes := 8, zero := [V.raw Value.nilFunc] } := by kernel_rfl
theorem ty_190 : ty Tryz.prog 190 = { kind := 11 } := by kernel_rfl
theorem ty_191 : ty Tryz.prog 191 = { kind := 9, size := 1, bytes := 8, zero := [V.raw Value.nilFunc] } := by kernel_rfl
theorem ty_192 : ty Tryz.prog 192 = { kind := 9, size := 1, bytes := 8, zero := [V.raw Value.nilFunc] } := by kernel_rfl
theorem ty_193 : ty Tryz.prog 193 = { kind := 9, size := 1, bytes := 8, zero := [V.raw Value.nilFunc] } := by kernel_rfl
theorem ty_194 : ty Tryz.prog 194 = { kind := 9, size := 1, bytes := 8, zero := [V.raw Value.nilFunc] } := by kernel_rfl
theorem ty_195 : ty Tryz.prog 195 = { kind := 9, size := 1, bytes := 8, zero := [V.raw Value.nilFunc] } := by kernel_rfl
theorem ty_196 : ty Tryz.prog 196 = { kind := 9, size := 1, bytes := 8, zero := [V.raw Value.nilFunc] } := by kernel_rfl
theorem ty_197 : ty Tryz.prog 197 = { kind := 11 } := by kernel_rfl
theorem ty_198 : ty Tryz.prog 198 = { kind := 9, size := 1, bytes := 8, zero := [V.raw Value.nilFunc] } := by kernel_rfl
theorem ty_199 : ty Tryz.prog 199 = { kind := 9, size := 1, bytes := 8, zero := [V.raw Value.nilFunc] } := by kernel_rfl
theorem ty_200 : ty Tryz.prog 200 = { kind := 9, size := 1, bytes := 8, zero := [V.raw Value.nilFunc] } := by kernel_rfl
theorem ty_201 : ty Tryz.prog 201 = { kind := 9, size := 1, bytes := 8, zero := [V.raw Value.nilFunc] } := by kernel_rfl
theorem ty_202 : ty Tryz.prog 202 = { kind := 9, size := 1, bytes := 8, zero := [V.raw Value.nilFunc] } := by kernel_rfl
theorem ty_203 : ty Tryz.prog 203 = { kind := 9, size := 1, bytes := 8, zero := [V.raw Value.nilFunc] } := by kernel_rfl
theorem ty_204 : ty Tryz.prog 204 = { kind := 9, size := 1, bytes := 8, zero := [V.raw Value.nilFunc] } := by kernel_rfl
theorem ty_205 : ty Tryz.prog 205 = { kind := 9, size := 1, bytes := 8, zero := [V.raw Value.nilFunc] } := by kernel_rfl
theorem ty_206 : ty Tryz.prog 206 = { kind := 9, size := 1, bytes := 8, zero := [V.raw Value.nilFunc] } := by kernel_rfl
theorem ty_207 : ty Tryz.prog 207 = { kind := 9, size := 1, bytes := 8, zero := [V.raw Value.nilFunc] } := by kernel_rfl
theorem ty_208 : ty Tryz.prog 208 = { kind := 9, size := 1, bytes := 8, zero := [V.raw Value.nilFunc] } := by kernel_rfl
theorem ty_209 : ty Tryz.prog 209 = { kind := 9, size := 1, bytes := 8, zero := [V.raw Value.nilFunc] } := by kernel_rfl
theorem ty_210 : ty Tryz.prog 210 = { kind := 9, size := 1, bytes := 8, zero := [V.raw Value.nilFunc] } := by kernel_rfl
theorem ty_211 : ty Tryz.prog 211 = { kind := 9, size := 1, bytes := 8, zero := [V.raw Value.nilFunc] } := by kernel_rfl
theorem ty_212 : ty Tryz.prog 212 = { kind := 9, size := 1, bytes := 8, zero := [V.raw Value.nilFunc] } := by kernel_rfl
theorem ty_213 : ty Tryz.prog 213 = { kind := 9, size := 1, bytes := 8, zero := [V.raw Value.nilFunc] } := by kernel_rfl
theorem ty_214 : ty Tryz.prog 214 = { kind := 9, size := 1, bytes := 8, zero := [V.raw Value.nilFunc] } := by kernel_rfl
theorem ty_215 : ty Tryz.prog 215 = { kind := 9, size := 1, bytes := 8, zero := [V.raw Value.nilFunc] } := by kernel_rfl
theorem ty_216 : ty Tryz.prog 216 = { kind := 9, size := 1, bytes := 8, zero := [V.raw Value.nilFunc] } := by kernel_rfl
theorem ty_217 : ty Tryz.prog 217 = { kind := 9, size := 1, bytes := 8, zero := [V.raw Value.nilFunc] } := by kernel_rfl
theorem ty_218 : ty Tryz.prog 218 = { kind := 2, size := 1, bytes := 8, ik := some IntKind.i64, zero := [V.int IntKind.i64 0] } := by kernel_rfl
theorem ty_219 : ty Tryz.prog 219 = { kind := 11 } := by kernel_rfl
theorem ty_220 : ty Tryz.prog 220 = { kind := 9, size := 1, bytes := 8, zero := [V.raw Value.nilFunc] } := by kernel_rfl
theorem ty_221 : ty Tryz.prog 221 = { kind := 9, size := 1, bytes := 8, zero := [V.raw Value.nilFunc] } := by kernel_rfl
theorem ty_222 : ty Tryz.prog 222 = { kind := 9, size := 1, bytes := 8, zero := [V.raw Value.nilFunc] } := by kernel_rfl
theorem ty_223 : ty Tryz.prog 223 = { kind := 9, size := 1, bytes := 8, zero := [V.raw Value.nilFunc] } := by kernel_rfl
theorem ty_224 : ty Tryz.prog 224 = { kind := 9, size := 1, bytes := 8, zero := [V.raw Value.nilFunc] } := by kernel_rfl
theorem ty_225 : ty Tryz.prog 225 = { kind := 2, size := 1, bytes := 4, ik := some IntKind.u32, zero := [V.int IntKind.u32 0] } := by kernel_rfl
theorem ty_226 : ty Tryz.prog 226 = { kind := 9, size := 1, bytes := 8, zero := [V.raw Value.nilFunc] } := by kernel_rfl
theorem ty_227 : ty Tryz.prog 227 = { kind := 9, size := 1, bytes := 8, zero := [V.raw Value.nilFunc] } := by kernel_rfl
theorem ty_228 : ty Tryz.prog 228 = { kind := 9, size := 1, bytes := 8, zero := [V.raw Value.nilFunc] } := by kernel_rfl
theorem ty_229 : ty Tryz.prog 229 = { kind := 9, size := 1, bytes := 8, zero := [V.raw Value.nilFunc] } := by kernel_rfl
theorem ty_230 : ty Tryz.prog 230 = { kind := 11 } := by kernel_rfl
theorem ty_231 : ty Tryz.prog 231 = { kind := 9, size := 1, bytes := 8, zero := [V.raw Value.nilFunc] } := by kernel_rfl
theorem ty_232 : ty Tryz.prog 232 = { kind := 11 } := by kernel_rfl
theorem ty_233 : ty Tryz.prog 233 = { kind := 9, size := 1, bytes := 8, zero := [V.raw Value.nilFunc] } := by kernel_rfl
theorem ty_234 : ty Tryz.prog 234 = { kind := 9, size := 1, bytes := 8, zero := [V.raw Value.nilFunc] } := by kernel_rfl
theorem ty_235 : ty Tryz.prog 235 = { kind := 11 } := by kernel_rfl
theorem ty_236 : ty Tryz.prog 236 = { kind := 9, size := 1, bytes := 8, zero := [V.raw Value.nilFunc] } := by kernel_rfl
theorem ty_237 : ty Tryz.prog 237 = { kind := 5, size := 24, bytes := 24, agg := true, elem := 5, len := 24, zero := [V.int IntKind.u8 0, V.int IntKind.u8 0, V.int IntKind.u8 0, V.int IntKind.u8 0, V.int IntKind.u8 0, V.int IntKind.u8 0, V.int IntKind.u8 0, V.int IntKind.u8 0, V.int IntKind.u8 0, V.int IntKind.u8 0, V.int IntKind.u8 0, V.int IntKind.u8 0, V.int IntKind.u8 0, V.int IntKind.u8 0, V.int IntKind.u8 0, V.int IntKind.u8 0, V.int IntKind.u8 0, V.int IntKind.u8 0, V.int IntKind.u8 0, V.int IntKind.u8 0, V.int IntKind.u8 0, V.int IntKind.u8 0, V.int IntKind.u8 0, V.int IntKind.u8 0] } := by kernel_rfl
theorem ty_238 : ty Tryz.prog 238 = { kind := 9, size := 1, bytes := 8, zero := [V.raw Value.nilFunc] } := by kernel_rfl
theorem ty_239 : ty Tryz.prog 239 = { kind := 11 } := by kernel_rfl
theorem ty_240 : ty Tryz.prog 240 = { kind := 9, size := 1, bytes := 8, zero := [V.raw Value.nilFunc] } := by kernel_rfl
theorem ty_241 : ty Tryz.prog 241 = { kind := 9, size := 1, bytes := 8, zero := [V.raw Value.nilFunc] } := by kernel_rfl
theorem ty_242 : ty Tryz.prog 242 = { kind := 9, size := 1, bytes := 8, zero := [V.raw Value.nilFunc] } := by kernel_rfl
theorem ty_243 : ty Tryz.prog 243 = { kind := 9, size := 1, bytes := 8, zero := [V.raw Value.nilFunc] } := by kernel_rfl
theorem ty_244 : ty Tryz.prog 244 = { kind := 9, size := 1, bytes := 8, zero := [V.raw Value.nilFunc] } := by kernel_rfl
theorem ty_245 : ty Tryz.prog 245 = { kind := 9, size := 1, bytes := 8, zero := [V.raw Value.nilFunc] } := by kernel_rfl
theorem ty_246 : ty Tryz.prog 246 = { kind := 9, size := 1, bytes := 8, zero := [V.raw Value.nilFunc] } := by kernel_rfl
theorem ty_247 : ty Tryz.prog 247 = { kind := 9, size := 1, bytes := 8, zero := [V.raw Value.nilFunc] } := by kernel_rfl
theorem ty_248 : ty Tryz.prog 248 = { kind := 9, size := 1, bytes := 8, zero := [V.raw Value.nilFunc] } := by kernel_rfl
theorem ty_249 : ty Tryz.prog 249 = { kind := 9, size := 1, bytes := 8, zero := [V.raw Value.nilFunc] } := by kernel_rfl
theorem ty_250 : ty Tryz.prog 250 = { kind := 9, size := 1, bytes := 8, zero := [V.raw Value.nilFunc] } := by kernel_rfl
theorem ty_251 : ty Tryz.prog 251 = { kind := 9, size := 1, bytes := 8, zero := [V.raw Value.nilFunc] } := by kernel_rfl
theorem ty_252 : ty Tryz.prog 252 = { kind := 9, size := 1, bytes := 8, zero := [V.raw Value.nilFunc] } := by kernel_rfl
theorem ty_253 : ty Tryz.prog 253 = { kind := 9, size := 1, bytes := 8, zero := [V.raw Value.nilFunc] } := by kernel_rfl
theorem ty_254 : ty Tryz.prog 254 = { kind := 2, size := 1, bytes := 8, ik := some IntKind.u64, zero := [V.int IntKind.u64 0] } := by kernel_rfl
theorem ty_255 : ty Tryz.prog 255 = { kind := 9, size := 1, bytes := 8, zero := [V.raw Value.nilFunc] } := by kernel_rfl
theorem ty_256 : ty Tryz.prog 256 = { kind := 9, size := 1, bytes := 8, zero := [V.raw Value.nilFunc] } := by kernel_rfl
theorem ty_257 : ty Tryz.prog 257 = { kind := 7, size := 1, bytes := 8, elem := 3, zero := [V.raw (Value.pointer none)] } := by kernel_rfl
theorem ty_258 : ty Tryz.prog 258 = { kind := 9, size := 1, bytes := 8, zero := [V.raw Value.nilFunc] } := by kernel_rfl
theorem ty_259 : ty Tryz.prog 259 = { kind := 9, size := 1, bytes := 8, zero := [V.raw Value.nilFunc] } := by kernel_rfl
theorem ty_260 : ty Tryz.prog 260 = { kind := 9, size := 1, bytes := 8, zero := [V.raw Value.nilFunc] } := by kernel_rfl
theorem ty_261 : ty Tryz.prog 261 = { kind := 9, size := 1, bytes := 8, zero := [V.raw Value.nilFunc] } := by kernel_rfl
theorem ty_262 : ty Tryz.prog 262 = { kind := 9, size := 1, bytes := 8, zero := [V.raw Value.nilFunc] } := by kernel_rfl
theorem ty_263 : ty Tryz.prog 263 = { kind := 5, size := 20, bytes := 160, agg := true, elem := 51, len := 20, zero := [V.int IntKind.u64 0, V.int IntKind.u64 0, V.int IntKind.u64 0, V.int IntKind.u64 0, V.int IntKind.u64 0, V.int IntKind.u64 0, V.int IntKind.u64 0, V.int IntKind.u64 0, V.int IntKind.u64 0, V.int IntKind.u64 0, V.int IntKind.u64 0, V.int IntKind.u64 0, V.int IntKind.u64 0, V.int IntKind.u64 0, V.int IntKind.u64 0, V.int IntKind.u64 0, V.int IntKind.u64 0, V.int IntKind.u64 0, V.int IntKind.u64 0, V.int IntKind.u64 0] } := by kernel_rfl
theorem ty_264 : ty Tryz.prog 264 = { kind := 5, size := 65, bytes := 65, agg := true, elem := 5, len := 65, zero := [V.int IntKind.u8 0, V.int IntKind.u8 0, V.int IntKind.u8 0, V.int IntKind.u8 0, V.int IntKind.u8 0, V.int IntKind.u8 0, V.int IntKind.u8 0, V.int IntKind.u8 0, V.int IntKind.u8 0, V.int IntKind.u8 0, V.int IntKind.u8 0, V.int IntKind.u8 0, V.int IntKind.u8 0, V.int IntKind.u8 0, V.int IntKind.u8 0, V.int IntKind.u8 0, V.int IntKind.u8 0, V.int IntKind.u8 0, V.int IntKind.u8 0, V.int IntKind.u8 0, V.int IntKind.u8 0, V.int IntKind.u8 0, V.int IntKind.u8 0, V.int IntKind.u8 0, V.int IntKind.u8 0, V.int IntKind.u8 0, V.int IntKind.u8 0, V.int IntKind.u8 0, V.int IntKind.u8 0, V.int IntKind.u8 0, V.int IntKind.u8 0, V.int IntKind.u8 0, V.int IntKind.u8 0, V.int IntKind.u8 0, V.int IntKind.u8 0, V.int IntKind.u8 0, V.int IntKind.u8 0, V.int IntKind.u8 0, V.int IntKind.u8 0, V.int IntKind.u8 0, V.int IntKind.u8 0, V.int IntKind.u8 0, V.int IntKind.u8 0, V.int IntKind.u8 0, V.int IntKind.u8 0, V.int IntKind.u8 0, V.int IntKind.u8 0, V.int IntKind.u8 0, V.int IntKind.u8 0, V.int IntKind.u8 0, V.int IntKind.u8 0, V.int IntKind.u8 0, V.int IntKind.u8 0, V.int IntKind.u8 0, V.int IntKind.u8 0, V.int IntKind.u8 0, V.int IntKind.u8 0, V.int IntKind.u8 0, V.int IntKind.u8 0, V.int IntKind.u8 0, V.int IntKind.u8 0, V.int IntKind.u8 0, V.int IntKind.u8 0, V.int IntKind.u8 0, V.int IntKind.u8 0] } := by kernel_rfl
theorem ty_265 : ty Tryz.prog 265 = { kind := 9, size := 1, bytes := 8, zero := [V.raw Value.nilFunc] } := by kernel_rfl
theorem ty_266 : ty Tryz.prog 266 = { kind := 9, size := 1, bytes := 8, zero := [V.raw Value.nilFunc] } := by kernel_rfl
theorem ty_267 : ty Tryz.prog 267 = { kind := 9, size := 1, bytes := 8, zero := [V.raw Value.nilFunc] } := by kernel_rfl
theorem ty_268 : ty Tryz.prog 268 = { kind := 9, size := 1, bytes := 8, zero := [V.raw Value.nilFunc] } := by kernel_rfl
theorem ty_269 : ty Tryz.prog 269 = { kind := 9, size := 1, bytes := 8, zero := [V.raw Value.nilFunc] } := by kernel_rfl
theorem ty_270 : ty Tryz.prog 270 = { kind := 9, size := 1, bytes := 8, zero := [V.raw Value.nilFunc] } := by kernel_rfl
theorem ty_271 : ty Tryz.prog 271 = { kind := 7, size := 1, bytes := 8, elem := 254, zero := [V.raw (Value.pointer none)] } := by kernel_rfl
theorem ty_272 : ty Tryz.prog 272 = { kind := 11 } := by kernel_rfl
theorem ty_273 : ty Tryz.prog 273 = { kind := 9, size := 1, bytes := 8, zero := [V.raw Value.nilFunc] } := by kernel_rfl
theorem ty_274 : ty Tryz.prog 274 = { kind := 9, size := 1, bytes := 8, zero := [V.raw Value.nilFunc] } := by kernel_rfl
theorem ty_275 : ty Tryz.prog 275 = { kind := 5, size := 256, bytes := 256, agg := true, elem := 5, len := 256, zero := [V.int IntKind.u8 0, V.int IntKind.u8 0, V.int IntKind.u8 0, V.int IntKind.u8 0, V.int IntKind.u8 0, V.int IntKind.u8 0, V.int IntKind.u8 0, V.int IntKind.u8 0, V.int IntKind.u8 0, V.int IntKind.u8 0, V.int IntKind.u8 0, V.int IntKind.u8 0, V.int IntKind.u8 0, V.int IntKind.u8 0, V.int IntKind.u8 0, V.int IntKind.u8 0, V.int IntKind.u8 0, V.int IntKind.u8 0, V.int IntKind.u8 0, V.int IntKind.u8 0, V.int IntKind.u8 0, V.int IntKind.u8 0, V.int IntKind.u8 0, V.int IntKind.u8 0, V.int IntKind.u8 0, V.int IntKind.u8 0, V.int IntKind.u8 0, V.int IntKind.u8 0, V.int IntKind.u8 0, V.int IntKind.u8 0, V.int IntKind.u8 0, V.int IntKind.u8 0, V.int IntKind.u8 0, V.int IntKind.u8 0, V.int IntKind.u8 0, V.int IntKind.u8 0, V.int IntKind.u8 0, V.int IntKind.u8 0, V.int IntKind.u8 0, V.int IntKind.u8 0, V.int IntKind.u8 0, V.int IntKind.u8 0, V.int IntKind.u8 0, V.int IntKind.u8 0, V.int IntKind.u8 0, V.int IntKind.u8 0, V.int IntKind.u8 0, V.int IntKind.u8 0, V.int IntKind.u8 0, V.int IntKind.u8 0, V.int IntKind.u8 0, V.int IntKind.u8 0, V.int IntKind.u8 0, V.int IntKind.u8 0, V.int IntKind.u8 0, V.int IntKind.u8 0, V.int IntKind.u8 0, V.int IntKind.u8 0, V.int IntKind.u8 0, V.int IntKind.u8 0, V.int IntKind.u8 0, V.int IntKind.u8 0, V.int IntKind.u8 0, V.int IntKind.u8 0, V.int IntKind.u8 0, V.int IntKind.u8 0, V.int IntKind.u8 0, V.int IntKind.u8 0, V.int IntKind.u8 0, V.int IntKind.u8 0, V.int IntKind.u8 0, V.int IntKind.u8 0, V.int IntKind.u8 0, V.int IntKind.u8 0, V.int IntKind.u8 0, V.int IntKind.u8 0, V.int IntKind.u8 0, V.int IntKind.u8 0, V.int IntKind.u8 0, V.int IntKind.u8 0, V.int IntKind.u8 0, V.int IntKind.u8 0, V.int IntKind.u8 0, V.int IntKind.u8 0, V.int IntKind.u8 0, V.int IntKind.u8 0, V.int IntKind.u8 0, V.int IntKind.u8 0, V.int IntKind.u8 0, V.int IntKind.u8 0, V.int IntKind.u8 0, V.int IntKind.u8 0, V.int IntKind.u8 0, V.int IntKind.u8 0, V.int IntKind.u8 0, V.int IntKind.u8 0, V.int IntKind.u8 0, V.int IntKind.u8 0, V.int IntKind.u8 0, V.int IntKind.u8 0, V.int IntKind.u8 0, V.int IntKind.u8 0, V.int IntKind.u8 0, V.int IntKind.u8 0, V.int IntKind.u8 0, V.int IntKind.u8 0, V.int IntKind.u8 0, V.int IntKind.u8 0, V.int IntKind.u8 0, V.int IntKind.u8 0, V.int IntKind.u8 0, V.int IntKind.u8 0, V.int IntKind.u8 0, V.int IntKind.u8 0, V.int IntKind.u8 0, V.int IntKind.u8 0, V.int IntKind.u8 0, V.int IntKind.u8 0, V.int IntKind.u8 0, V.int IntKind.u8 0, V.int IntKind.u8 0, V.int IntKind.u8 0, V.int IntKind.u8 0, V.int IntKind.u8 0, V.int IntKind.u8 0, V.int IntKind.u8 0, V.int IntKind.u8 0, V.int IntKind.u8 0, V.int IntKind.u8 0, V.int IntKind.u8 0, V.int IntKind.u8 0, V.int IntKind.u8 0, V.int IntKind.u8 0, V.int IntKind.u8 0, V.int IntKind.u8 0, V.int IntKind.u8 0, V.int IntKind.u8 0, V.int IntKind.u8 0, V.int IntKind.u8 0, V.int IntKind.u8 0, V.int IntKind.u8 0, V.int IntKind.u8 0, V.int IntKind.u8 0, V.int IntKind.u8 0, V.int IntKind.u8 0, V.int IntKind.u8 0, V.int IntKind.u8 0, V.int IntKind.u8 0, V.int IntKind.u8 0, V.int IntKind.u8 0, V.int IntKind.u8 0, V.int IntKind.u8 0, V.int IntKind.u8 0, V.int IntKind.u8 0, V.int IntKind.u8 0, V.int IntKind.u8 0, V.int IntKind.u8 0, V.int IntKind.u8 0, V.int IntKind.u8 0, V.int IntKind.u8 0, V.int IntKind.u8 0, V.int IntKind.u8 0, V.int IntKind.u8 0, V.int IntKind.u8 0, V.int IntKind.u8 0, V.int IntKind.u8 0, V.int IntKind.u8 0, V.int IntKind.u8 0, V.int IntKind.u8 0, V.int IntKind.u8 0, V.int IntKind.u8 0, V.int IntKind.u8 0, V.int IntKind.u8 0, V.int IntKind.u8 0, V.int IntKind.u8 0, V.int IntKind.u8 0, V.int IntKind.u8 0, V.int IntKind.u8 0, V.int IntKind.u8 0, V.int IntKind.u8 0, V.int IntKind.u8 0, V.int IntKind.u8 0, V.int IntKind.u8 0, V.int IntKind.u8 0, V.int IntKind.u8 0, V.int IntKind.u8 0, V.int IntKind.u8 0, V.int IntKind.u8 0, V.int IntKind.u8 0, V.int IntKind.u8 0, V.int IntKind.u8 0, V.int IntKind.u8 0, V.int IntKind.u8 0, V.int IntKind.u8 0, V.int IntKind.u8 0, V.int IntKind.u8 0, V.int IntKind.u8 0, V.int IntKind.u8 0, V.int IntKind.u8 0, V.int IntKind.u8 0, V.int IntKind.u8 0, V.int IntKind.u8 0, V.int IntKind.u8 0, V.int IntKind.u8 0, V.int IntKind.u8 0, V.int IntKind.u8 0, V.int IntKind.u8 0, V.int IntKind.u8 0, V.int IntKind.u8 0, V.int IntKind.u8 0, V.int IntKind.u8 0, V.int IntKind.u8 0, V.int IntKind.u8 0, V.int IntKind.u8 0, V.int IntKind.u8 0, V.int IntKind.u8 0, V.int IntKind.u8 0, V.int IntKind.u8 0, V.int IntKind.u8 0, V.int IntKind.u8 0, V.int IntKind.u8 0, V.int IntKind.u8 0, V.int IntKind.u8 0, V.int IntKind.u8 0, V.int IntKind.u8 0, V.int IntKind.u8 0, V.int IntKind.u8 0, V.int IntKind.u8 0, V.int IntKind.u8 0, V.int IntKind.u8 0, V.int IntKind.u8 0, V.int IntKind.u8 0, V.int IntKind.u8 0, V.int IntKind.u8 0, V.int IntKind.u8 0, V.int IntKind.u8 0, V.int IntKind.u8 0, V.int IntKind.u8 0, V.int IntKind.u8 0, V.int IntKind.u8 0, V.int IntKind.u8 0, V.int IntKind.u8 0, V.int IntKind.u8 0, V.int IntKind.u8 0, V.int IntKind.u8 0, V.int IntKind.u8 0, V.int IntKind.u8 0, V.int IntKind.u8 0, V.int IntKind.u8 0, V.int IntKind.u8 0, V.int IntKind.u8 0, V.int IntKind.u8 0, V.int IntKind.u8 0, V.int IntKind.u8 0, V.int IntKind.u8 0, V.int IntKind.u8 0] } := by kernel_rfl
theorem ty_276 : ty Tryz.prog 276 = { kind := 6, size := 2, bytes := 2, agg := true, offs := [(0, 5), (1, 5)], zero := [V.int IntKind.u8 0, V.int IntKind.u8 0] } := by kernel_rfl
theorem ty_277 : ty Tryz.prog 277 = { kind := 6, size := 2, bytes := 2, agg := true, offs := [(0, 5), (1, 5)], zero := [V.int IntKind.u8 0, V.int IntKind.u8 0] } := by kernel_rfl
theorem ty_278 : ty Tryz.prog 278 = { kind := 5, size := 32, bytes := 32, agg := true, elem := 277, len := 16, zero := [V.int IntKind.u8 0, V.int IntKind.u8 0, V.int IntKind.u8 0, V.int IntKind.u8 0, V.int IntKind.u8 0, V.int IntKind.u8 0, V.int IntKind.u8 0, V.int IntKind.u8 0, V.int IntKind.u8 0, V.int IntKind.u8 0, V.int IntKind.u8 0, V.int IntKind.u8 0, V.int IntKind.u8 0, V.int IntKind.u8 0, V.int IntKind.u8 0, V.int IntKind.u8 0, V.int IntKind.u8 0, V.int IntKind.u8 0, V.int IntKind.u8 0, V.int IntKind.u8 0, V.int IntKind.u8 0, V.int IntKind.u8 0, V.int IntKind.u8 0, V.int IntKind.u8 0, V.int IntKind.u8 0, V.int IntKind.u8 0, V.int IntKind.u8 0, V.int IntKind.u8 0, V.int IntKind.u8 0, V.int IntKind.u8 0, V.int IntKind.u8 0, V.int IntKind.u8 0] } := by kernel_rfl
theorem ty_279 : ty Tryz.prog 279 = { kind := 9, size := 1, bytes := 8, zero := [V.raw Value.nilFunc] } := by kernel_rfl
theorem ty_280 : ty Tryz.prog 280 = { kind := 9, size := 1, bytes := 8, zero := [V.raw Value.nilFunc] } := by kernel_rfl
theorem ty_281 : ty Tryz.prog 281 = { kind := 9, size := 1, bytes := 8, zero := [V.raw Value.nilFunc] } := by kernel_rfl
theorem ty_282 : ty Tryz.prog 282 = { kind := 9, size := 1, bytes := 8, zero := [V.raw Value.nilFunc] } := by kernel_rfl
theorem ty_283 : ty Tryz.prog 283 = { kind := 9, size := 1, bytes := 8, zero := [V.raw Value.nilFunc] } := by kernel_rfl
theorem ty_284 : ty Tryz.prog 284 = { kind := 5, size := 32, bytes := 32, agg := true, elem := 5, len := 32, zero := [V.int IntKind.u8 0, V.int IntKind.u8 0, V.int IntKind.u8 0, V.int IntKind.u8 0, V.int IntKind.u8 0, V.int IntKind.u8 0, V.int IntKind.u8 0, V.int IntKind.u8 0, V.int IntKind.u8 0, V.int IntKind.u8 0, V.int IntKind.u8 0, V.int IntKind.u8 0, V.int IntKind.u8 0, V.int IntKind.u8 0, V.int IntKind.u8 0, V.int IntKind.u8 0, V.int IntKind.u8 0, V.int IntKind.u8 0, V.int IntKind.u8 0, V.int IntKind.u8 0, V.int IntKind.u8 0, V.int IntKind.u8 0, V.int IntKind.u8 0, V.int IntKind.u8 0, V.int IntKind.u8 0, V.int IntKind.u8 0, V.int IntKind.u8 0, V.int IntKind.u8 0, V.int IntKind.u8 0, V.int IntKind.u8 0, V.int IntKind.u8 0, V.int IntKind.u8 0] } := by kernel_rfl
theorem ty_285 : ty Tryz.prog 285 = { kind := 5, size := 64, bytes := 64, agg := true, elem := 5, len := 64, zero := [V.int IntKind.u8 0, V.int IntKind.u8 0, V.int IntKind.u8 0, V.int IntKind.u8 0, V.int IntKind.u8 0, V.int IntKind.u8 0, V.int IntKind.u8 0, V.int IntKind.u8 0, V.int IntKind.u8 0, V.int IntKind.u8 0, V.int IntKind.u8 0, V.int IntKind.u8 0, V.int IntKind.u8 0, V.int IntKind.u8 0, V.int IntKind.u8 0, V.int IntKind.u8 0, V.int IntKind.u8 0, V.int IntKind.u8 0, V.int IntKind.u8 0, V.int IntKind.u8 0, V.int IntKind.u8 0, V.int IntKind.u8 0, V.int IntKind.u8 0, V.int IntKind.u8 0, V.int IntKind.u8 0, V.int IntKind.u8 0, V.int IntKind.u8 0, V.int IntKind.u8 0, V.int IntKind.u8 0, V.int IntKind.u8 0, V.int IntKind.u8 0, V.int IntKind.u8 0, V.int IntKind.u8 0, V.int IntKind.u8 0, V.int IntKind.u8 0, V.int IntKind.u8 0, V.int IntKind.u8 0, V.int IntKind.u8 0, V.int IntKind.u8 0, V.int IntKind.u8 0, V.int IntKind.u8 0, V.int IntKind.u8 0, V.int IntKind.u8 0, V.int IntKind.u8 0, V.int IntKind.u8 0, V.int IntKind.u8 0, V.int IntKind.u8 0, V.int IntKind.u8 0, V.int IntKind.u8 0, V.int IntKind.u8 0, V.int IntKind.u8 0, V.int IntKind.u8 0, V.int IntKind.u8 0, V.int IntKind.u8 0, V.int IntKind.u8 0, V.int IntKind.u8 0, V.int IntKind.u8 0, V.int IntKind.u8 0, V.int IntKind.u8 0, V.int IntKind.u8 0, V.int IntKind.u8 0, V.int IntKind.u8 0, V.int IntKind.u8 0, V.int IntKind.u8 0] } := by kernel_rfl
theorem ty_286 : ty Tryz.prog 286 = { kind := 11 } := by kernel_rfl
theorem ty_287 : ty Tryz.prog 287 = { kind := 9, size := 1, bytes := 8, zero := [V.raw Value.nilFunc] } := by kernel_rfl
theorem ty_288 : ty Tryz.prog 288 = { kind := 6, size := 4, bytes := 40, agg := true, offs := [(0, 17), (1, 17), (2, 17), (3, 9)], zero := [V.raw (Value.pointer none), V.raw (Value.pointer none), V.raw (Value.pointer none), V.str []] } := by kernel_rfl
theorem ty_289 : ty Tryz.prog 289 = { kind := 6, size := 4, bytes := 40, agg := true, offs := [(0, 17), (1, 17), (2, 17), (3, 9)], zero := [V.raw (Value.pointer none), V.raw (Value.pointer none), V.raw (Value.pointer none), V.str []] } := by kernel_rfl
theorem ty_290 : ty Tryz.prog 290 = { kind := 5, agg := true, elem := 16 } := by kernel_rfl
theorem ty_291 : ty Tryz.prog 291 = { kind := 6, agg := true, offs := [(0, 290)] } := by kernel_rfl
theorem ty_292 : ty Tryz.prog 292 = { kind := 6, agg := true, offs := [(0, 290)] } := by kernel_rfl
theorem ty_293 : ty Tryz.prog 293 = { kind := 2, size := 1, bytes := 1, ik := some IntKind.u8, zero := [V.int IntKind.u8 0] } := by kernel_rfl
theorem ty_294 : ty Tryz.prog 294 = { kind := 2, size := 1, bytes := 1, ik := some IntKind.u8, zero := [V.int IntKind.u8 0] } := by kernel_rfl
theorem ty_295 : ty Tryz.prog 295 = { kind := 9, size := 1, bytes := 8, zero := [V.raw Value.nilFunc] } := by kernel_rfl
theorem ty_296 : ty Tryz.prog 296 = { kind := 2, size := 1, bytes := 4, ik := some IntKind.i32, zero := [V.int IntKind.i32 0] } := by kernel_rfl
theorem ty_297 : ty Tryz.prog 297 = { kind := 2, size := 1, bytes := 4, ik := some IntKind.i32, zero := [V.int IntKind.i32 0] } := by kernel_rfl
theorem ty_298 : ty Tryz.prog 298 = { kind := 6, size := 11, bytes := 48, agg := true, offs := [(0, 12), (1, 12), (2, 225), (3, 293), (4, 5), (5, 5), (6, 294), (7, 295), (8, 177), (9, 296), (10, 297)], zero := [V.int IntKind.u64 0, V.int IntKind.u64 0, V.int IntKind.u32 0, V.int IntKind.u8 0, V.int IntKind.u8 0, V.int IntKind.u8 0, V.int IntKind.u8 0, V.raw Value.nilFunc, V.raw (Value.pointer none), V.int IntKind.i32 0, V.int IntKind.i32 0] } := by kernel_rfl
theorem ty_299 : ty Tryz.prog 299 = { kind := 6, size := 11, bytes := 48, agg := true, offs := [(0, 12), (1, 12), (2, 225), (3, 293), (4, 5), (5, 5), (6, 294), (7, 295), (8, 177), (9, 296), (10, 297)], zero := [V.int IntKind.u64 0, V.int IntKind.u64 0, V.int IntKind.u32 0, V.int IntKind.u8 0, V.int IntKind.u8 0, V.int IntKind.u8 0, V.int IntKind.u8 0, V.raw Value.nilFunc, V.raw (Value.pointer none), V.int IntKind.i32 0, V.int IntKind.i32 0] } := by kernel_rfl
theorem eqT_58 : eqT Tryz.prog 58 = some [2, 2, 2] := by kernel_rfl
theorem eqT_60 : eqT Tryz.prog 60 = some [2, 2, 2, 3] := by kernel_rfl
theorem eqT_62 : eqT Tryz.prog 62 = some [2, 2, 2] := by kernel_rfl
theorem eqT_87 : eqT Tryz.prog 87 = some [2, 2] := by kernel_rfl
end Go.Proofs.YtfmjboanoojhcaaGreatDoor
