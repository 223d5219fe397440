/- The types of the program, as the walk reads them. -/
import Derived.Test.YtfamfamgopchnaaGreatDoorEa
import Derived.KernelRfl
import Derived.Test.YtfamfamgopchnaaGreatDoorEm
namespace Go.Proofs.YtfamfamgopchnaaGreatDoor
open Go.RowKit
set_option linter.unusedSimpArgs false
set_option linter.unusedVariables false
set_option linter.unusedSectionVars false
set_option maxHeartbeats 4000000
set_option maxRecDepth 100000

theorem ty_0 : ty Tryz.prog 0 = { kind := 11 } := by kernel_rfl
theorem ty_1 : ty Tryz.prog 1 = { kind := 9, size := 1, bytes := 8, zero := [V.raw Value.nilFunc] } := by kernel_rfl
theorem ty_2 : ty Tryz.prog 2 = { kind := 2, size := 1, bytes := 8, ik := some IntKind.i64, zero := [V.int IntKind.i64 0] } := by kernel_rfl
theorem ty_3 : ty Tryz.prog 3 = { kind := 2, size := 1, bytes := 8, ik := some IntKind.i64, zero := [V.int IntKind.i64 0] } := by kernel_rfl
theorem ty_4 : ty Tryz.prog 4 = { kind := 1, size := 1, bytes := 1, zero := [V.bool false] } := by kernel_rfl
theorem ty_5 : ty Tryz.prog 5 = { kind := 2, size := 1, bytes := 1, ik := some IntKind.u8, zero := [V.int IntKind.u8 0] } := by kernel_rfl
theorem ty_6 : ty Tryz.prog 6 = { kind := 2, size := 1, bytes := 1, ik := some IntKind.u8, zero := [V.int IntKind.u8 0] } := by kernel_rfl
theorem ty_7 : ty Tryz.prog 7 = { kind := 6, size := 4, bytes := 24, agg := true, offs := [(0, 2), (1, 3), (2, 4), (3, 6)], zero := [V.int IntKind.i64 0, V.int IntKind.i64 0, V.bool false, V.int IntKind.u8 0] } := by kernel_rfl
theorem ty_8 : ty Tryz.prog 8 = { kind := 6, size := 4, bytes := 24, agg := true, offs := [(0, 2), (1, 3), (2, 4), (3, 6)], zero := [V.int IntKind.i64 0, V.int IntKind.i64 0, V.bool false, V.int IntKind.u8 0] } := by kernel_rfl
theorem ty_9 : ty Tryz.prog 9 = { kind := 3, size := 1, bytes := 16, zero := [V.str []] } := by kernel_rfl
theorem ty_10 : ty Tryz.prog 10 = { kind := 3, size := 1, bytes := 16, zero := [V.str []] } := by kernel_rfl
theorem ty_11 : ty Tryz.prog 11 = { kind := 3, size := 1, bytes := 16, zero := [V.str []] } := by kernel_rfl
theorem ty_12 : ty Tryz.prog 12 = { kind := 2, size := 1, bytes := 8, ik := some IntKind.u64, zero := [V.int IntKind.u64 0] } := by kernel_rfl
theorem ty_13 : ty Tryz.prog 13 = { kind := 6, size := 2, bytes := 24, agg := true, offs := [(0, 9), (1, 12)], zero := [V.str [], V.int IntKind.u64 0] } := by kernel_rfl
theorem ty_14 : ty Tryz.prog 14 = { kind := 6, size := 2, bytes := 24, agg := true, offs := [(0, 9), (1, 12)], zero := [V.str [], V.int IntKind.u64 0] } := by kernel_rfl
theorem ty_15 : ty Tryz.prog 15 = { kind := 7, size := 1, bytes := 8, elem := 238, zero := [V.raw (Value.pointer none)] } := by kernel_rfl
theorem ty_16 : ty Tryz.prog 16 = { kind := 7, size := 1, bytes := 8, elem := 241, zero := [V.raw (Value.pointer none)] } := by kernel_rfl
theorem ty_17 : ty Tryz.prog 17 = { kind := 7, size := 1, bytes := 8, elem := 249, zero := [V.raw (Value.pointer none)] } := by kernel_rfl
theorem ty_18 : ty Tryz.prog 18 = { kind := 6, size := 1, bytes := 8, agg := true, offs := [(0, 17)], zero := [V.raw (Value.pointer none)] } := by kernel_rfl
theorem ty_19 : ty Tryz.prog 19 = { kind := 6, size := 1, bytes := 8, agg := true, offs := [(0, 17)], zero := [V.raw (Value.pointer none)] } := by kernel_rfl
theorem ty_20 : ty Tryz.prog 20 = { kind := 10, size := 1, bytes := 16, zero := [V.raw Value.nilIface] } := by kernel_rfl
theorem ty_21 : ty Tryz.prog 21 = { kind := 2, size := 1, bytes := 4, ik := some IntKind.i32, zero := [V.int IntKind.i32 0] } := by kernel_rfl
theorem ty_22 : ty Tryz.prog 22 = { kind := 4, size := 1, bytes := 24, elem := 79, zero := [V.gs (Value.slice none 0 0) []] } := by kernel_rfl
theorem ty_23 : ty Tryz.prog 23 = { kind := 4, size := 1, bytes := 24, elem := 5, zero := [V.gs (Value.slice none 0 0) []] } := by kernel_rfl
theorem ty_24 : ty Tryz.prog 24 = { kind := 2, size := 1, bytes := 2, ik := some IntKind.u16, zero := [V.int IntKind.u16 0] } := by kernel_rfl
theorem ty_25 : ty Tryz.prog 25 = { kind := 9, size := 1, bytes := 8, zero := [V.raw Value.nilFunc] } := by kernel_rfl
theorem ty_26 : ty Tryz.prog 26 = { kind := 9, size := 1, bytes := 8, zero := [V.raw Value.nilFunc] } := by kernel_rfl
theorem ty_27 : ty Tryz.prog 27 = { kind := 11 } := by kernel_rfl
theorem ty_28 : ty Tryz.prog 28 = { kind := 9, size := 1, bytes := 8, zero := [V.raw Value.nilFunc] } := by kernel_rfl
theorem ty_29 : ty Tryz.prog 29 = { kind := 4, size := 1, bytes := 24, elem := 82, zero := [V.gs (Value.slice none 0 0) []] } := by kernel_rfl
theorem ty_30 : ty Tryz.prog 30 = { kind := 4, size := 1, bytes := 24, elem := 48, zero := [V.gs (Value.slice none 0 0) []] } := by kernel_rfl
theorem ty_31 : ty Tryz.prog 31 = { kind := 4, size := 1, bytes := 24, elem := 121, zero := [V.gs (Value.slice none 0 0) []] } := by kernel_rfl
theorem ty_32 : ty Tryz.prog 32 = { kind := 4, size := 1, bytes := 24, elem := 50, zero := [V.gs (Value.slice none 0 0) []] } := by kernel_rfl
theorem ty_33 : ty Tryz.prog 33 = { kind := 4, size := 1, bytes := 24, elem := 104, zero := [V.gs (Value.slice none 0 0) []] } := by kernel_rfl
theorem ty_34 : ty Tryz.prog 34 = { kind := 6, size := 4, bytes := 96, agg := true, offs := [(0, 30), (1, 31), (2, 32), (3, 33)], zero := [V.gs (Value.slice none 0 0) [], V.gs (Value.slice none 0 0) [], V.gs (Value.slice none 0 0) [], V.gs (Value.slice none 0 0) []] } := by kernel_rfl
theorem ty_35 : ty Tryz.prog 35 = { kind := 6, size := 4, bytes := 96, agg := true, offs := [(0, 30), (1, 31), (2, 32), (3, 33)], zero := [V.gs (Value.slice none 0 0) [], V.gs (Value.slice none 0 0) [], V.gs (Value.slice none 0 0) [], V.gs (Value.slice none 0 0) []] } := by kernel_rfl
theorem ty_36 : ty Tryz.prog 36 = { kind := 6, size := 4, bytes := 56, agg := true, offs := [(0, 9), (1, 23), (2, 3), (3, 4)], zero := [V.str [], V.gs (Value.slice none 0 0) [], V.int IntKind.i64 0, V.bool false] } := by kernel_rfl
theorem ty_37 : ty Tryz.prog 37 = { kind := 6, size := 4, bytes := 56, agg := true, offs := [(0, 9), (1, 23), (2, 3), (3, 4)], zero := [V.str [], V.gs (Value.slice none 0 0) [], V.int IntKind.i64 0, V.bool false] } := by kernel_rfl
theorem ty_38 : ty Tryz.prog 38 = { kind := 6, size := 15, bytes := 240, agg := true, offs := [(0, 3), (1, 3), (2, 3), (3, 3), (4, 29), (5, 30), (6, 35), (10, 3), (11, 37)], zero := [V.int IntKind.i64 0, V.int IntKind.i64 0, V.int IntKind.i64 0, V.int IntKind.i64 0, V.gs (Value.slice none 0 0) [], V.gs (Value.slice none 0 0) [], V.gs (Value.slice none 0 0) [], V.gs (Value.slice none 0 0) [], V.gs (Value.slice none 0 0) [], V.gs (Value.slice none 0 0) [], V.int IntKind.i64 0, V.str [], V.gs (Value.slice none 0 0) [], V.int IntKind.i64 0, V.bool false] } := by kernel_rfl
theorem ty_39 : ty Tryz.prog 39 = { kind := 6, size := 15, bytes := 240, agg := true, offs := [(0, 3), (1, 3), (2, 3), (3, 3), (4, 29), (5, 30), (6, 35), (10, 3), (11, 37)], zero := [V.int IntKind.i64 0, V.int IntKind.i64 0, V.int IntKind.i64 0, V.int IntKind.i64 0, V.gs (Value.slice none 0 0) [], V.gs (Value.slice none 0 0) [], V.gs (Value.slice none 0 0) [], V.gs (Value.slice none 0 0) [], V.gs (Value.slice none 0 0) [], V.gs (Value.slice none 0 0) [], V.int IntKind.i64 0, V.str [], V.gs (Value.slice none 0 0) [], V.int IntKind.i64 0, V.bool false] } := by kernel_rfl
theorem ty_40 : ty Tryz.prog 40 = { kind := 9, size := 1, bytes := 8, zero := [V.raw Value.nilFunc] } := by kernel_rfl
theorem ty_41 : ty Tryz.prog 41 = { kind := 2, size := 1, bytes := 8, ik := some IntKind.i64, zero := [V.int IntKind.i64 0] } := by kernel_rfl
theorem ty_42 : ty Tryz.prog 42 = { kind := 11 } := by kernel_rfl
theorem ty_43 : ty Tryz.prog 43 = { kind := 9, size := 1, bytes := 8, zero := [V.raw Value.nilFunc] } := by kernel_rfl
theorem ty_44 : ty Tryz.prog 44 = { kind := 9, size := 1, bytes := 8, zero := [V.raw Value.nilFunc] } := by kernel_rfl
theorem ty_45 : ty Tryz.prog 45 = { kind := 9, size := 1, bytes := 8, zero := [V.raw Value.nilFunc] } := by kernel_rfl
theorem ty_46 : ty Tryz.prog 46 = { kind := 9, size := 1, bytes := 8, zero := [V.raw Value.nilFunc] } := by kernel_rfl
theorem ty_47 : ty Tryz.prog 47 = { kind := 6, size := 3, bytes := 24, agg := true, offs := [(0, 3), (1, 3), (2, 3)], zero := [V.int IntKind.i64 0, V.int IntKind.i64 0, V.int IntKind.i64 0] } := by kernel_rfl
theorem ty_48 : ty Tryz.prog 48 = { kind := 6, size := 3, bytes := 24, agg := true, offs := [(0, 3), (1, 3), (2, 3)], zero := [V.int IntKind.i64 0, V.int IntKind.i64 0, V.int IntKind.i64 0] } := by kernel_rfl
theorem ty_49 : ty Tryz.prog 49 = { kind := 6, size := 4, bytes := 40, agg := true, offs := [(0, 48), (3, 9)], zero := [V.int IntKind.i64 0, V.int IntKind.i64 0, V.int IntKind.i64 0, V.str []] } := by kernel_rfl
theorem ty_50 : ty Tryz.prog 50 = { kind := 6, size := 4, bytes := 40, agg := true, offs := [(0, 48), (3, 9)], zero := [V.int IntKind.i64 0, V.int IntKind.i64 0, V.int IntKind.i64 0, V.str []] } := by kernel_rfl
theorem ty_51 : ty Tryz.prog 51 = { kind := 9, size := 1, bytes := 8, zero := [V.raw Value.nilFunc] } := by kernel_rfl
theorem ty_52 : ty Tryz.prog 52 = { kind := 9, size := 1, bytes := 8, zero := [V.raw Value.nilFunc] } := by kernel_rfl
theorem ty_53 : ty Tryz.prog 53 = { kind := 9, size := 1, bytes := 8, zero := [V.raw Value.nilFunc] } := by kernel_rfl
theorem ty_54 : ty Tryz.prog 54 = { kind := 4, size := 1, bytes := 24, elem := 35, zero := [V.gs (Value.slice none 0 0) []] } := by kernel_rfl
theorem ty_55 : ty Tryz.prog 55 = { kind := 9, size := 1, bytes := 8, zero := [V.raw Value.nilFunc] } := by kernel_rfl
theorem ty_56 : ty Tryz.prog 56 = { kind := 9, size := 1, bytes := 8, zero := [V.raw Value.nilFunc] } := by kernel_rfl
theorem ty_57 : ty Tryz.prog 57 = { kind := 9, size := 1, bytes := 8, zero := [V.raw Value.nilFunc] } := by kernel_rfl
theorem ty_58 : ty Tryz.prog 58 = { kind := 9, size := 1, bytes := 8, zero := [V.raw Value.nilFunc] } := by kernel_rfl
theorem ty_59 : ty Tryz.prog 59 = { kind := 9, size := 1, bytes := 8, zero := [V.raw Value.nilFunc] } := by kernel_rfl
theorem ty_60 : ty Tryz.prog 60 = { kind := 5, size := 2, bytes := 16, agg := true, elem := 3, len := 2, zero := [V.int IntKind.i64 0, V.int IntKind.i64 0] } := by kernel_rfl
theorem ty_61 : ty Tryz.prog 61 = { kind := 4, size := 1, bytes := 24, elem := 60, zero := [V.gs (Value.slice none 0 0) []] } := by kernel_rfl
theorem ty_62 : ty Tryz.prog 62 = { kind := 4, size := 1, bytes := 24, elem := 9, zero := [V.gs (Value.slice none 0 0) []] } := by kernel_rfl
theorem ty_63 : ty Tryz.prog 63 = { kind := 9, size := 1, bytes := 8, zero := [V.raw Value.nilFunc] } := by kernel_rfl
theorem ty_64 : ty Tryz.prog 64 = { kind := 9, size := 1, bytes := 8, zero := [V.raw Value.nilFunc] } := by kernel_rfl
theorem ty_65 : ty Tryz.prog 65 = { kind := 9, size := 1, bytes := 8, zero := [V.raw Value.nilFunc] } := by kernel_rfl
theorem ty_66 : ty Tryz.prog 66 = { kind := 9, size := 1, bytes := 8, zero := [V.raw Value.nilFunc] } := by kernel_rfl
theorem ty_67 : ty Tryz.prog 67 = { kind := 4, size := 1, bytes := 24, elem := 3, zero := [V.gs (Value.slice none 0 0) []] } := by kernel_rfl
theorem ty_68 : ty Tryz.prog 68 = { kind := 9, size := 1, bytes := 8, zero := [V.raw Value.nilFunc] } := by kernel_rfl
theorem ty_69 : ty Tryz.prog 69 = { kind := 9, size := 1, bytes := 8, zero := [V.raw Value.nilFunc] } := by kernel_rfl
theorem ty_70 : ty Tryz.prog 70 = { kind := 9, size := 1, bytes := 8, zero := [V.raw Value.nilFunc] } := by kernel_rfl
theorem ty_71 : ty Tryz.prog 71 = { kind := 9, size := 1, bytes := 8, zero := [V.raw Value.nilFunc] } := by kernel_rfl
theorem ty_72 : ty Tryz.prog 72 = { kind := 5, size := 16, bytes := 16, agg := true, elem := 4, len := 16, zero := [V.bool false, V.bool false, V.bool false, V.bool false, V.bool false, V.bool false, V.bool false, V.bool false, V.bool false, V.bool false, V.bool false, V.bool false, V.bool false, V.bool false, V.bool false, V.bool false] } := by kernel_rfl
theorem ty_73 : ty Tryz.prog 73 = { kind := 9, size := 1, bytes := 8, zero := [V.raw Value.nilFunc] } := by kernel_rfl
theorem ty_74 : ty Tryz.prog 74 = { kind := 9, size := 1, bytes := 8, zero := [V.raw Value.nilFunc] } := by kernel_rfl
theorem ty_75 : ty Tryz.prog 75 = { kind := 11 } := by kernel_rfl
theorem ty_76 : ty Tryz.prog 76 = { kind := 9, size := 1, bytes := 8, zero := [V.raw Value.nilFunc] } := by kernel_rfl
theorem ty_77 : ty Tryz.prog 77 = { kind := 9, size := 1, bytes := 8, zero := [V.raw Value.nilFunc] } := by kernel_rfl
theorem ty_78 : ty Tryz.prog 78 = { kind := 6, size := 4, bytes := 32, agg := true, offs := [(0, 5), (1, 5), (2, 5), (3, 23)], zero := [V.int IntKind.u8 0, V.int IntKind.u8 0, V.int IntKind.u8 0, V.gs (Value.slice none 0 0) []] } := by kernel_rfl
theorem ty_79 : ty Tryz.prog 79 = { kind := 6, size := 4, bytes := 32, agg := true, offs := [(0, 5), (1, 5), (2, 5), (3, 23)], zero := [V.int IntKind.u8 0, V.int IntKind.u8 0, V.int IntKind.u8 0, V.gs (Value.slice none 0 0) []] } := by kernel_rfl
theorem ty_80 : ty Tryz.prog 80 = { kind := 9, size := 1, bytes := 8, zero := [V.raw Value.nilFunc] } := by kernel_rfl
theorem ty_81 : ty Tryz.prog 81 = { kind := 9, size := 1, bytes := 8, zero := [V.raw Value.nilFunc] } := by kernel_rfl
theorem ty_82 : ty Tryz.prog 82 = { kind := 2, size := 1, bytes := 8, ik := some IntKind.u64, zero := [V.int IntKind.u64 0] } := by kernel_rfl
theorem ty_83 : ty Tryz.prog 83 = { kind := 9, size := 1, bytes := 8, zero := [V.raw Value.nilFunc] } := by kernel_rfl
theorem ty_84 : ty Tryz.prog 84 = { kind := 9, size := 1, bytes := 8, zero := [V.raw Value.nilFunc] } := by kernel_rfl
theorem ty_85 : ty Tryz.prog 85 = { kind := 9, size := 1, bytes := 8, zero := [V.raw Value.nilFunc] } := by kernel_rfl
theorem ty_86 : ty Tryz.prog 86 = { kind := 9, size := 1, bytes := 8, zero := [V.raw Value.nilFunc] } := by kernel_rfl
theorem ty_87 : ty Tryz.prog 87 = { kind := 9, size := 1, bytes := 8, zero := [V.raw Value.nilFunc] } := by kernel_rfl
theorem ty_88 : ty Tryz.prog 88 = { kind := 7, size := 1, bytes := 8, elem := 90, zero := [V.raw (Value.pointer none)] } := by kernel_rfl
theorem ty_89 : ty Tryz.prog 89 = { kind := 6, size := 2, bytes := 32, agg := true, offs := [(0, 23), (1, 4)], zero := [V.gs (Value.slice none 0 0) [], V.bool false] } := by kernel_rfl
theorem ty_90 : ty Tryz.prog 90 = { kind := 6, size := 2, bytes := 32, agg := true, offs := [(0, 23), (1, 4)], zero := [V.gs (Value.slice none 0 0) [], V.bool false] } := by kernel_rfl
theorem ty_91 : ty Tryz.prog 91 = { kind := 9, size := 1, bytes := 8, zero := [V.raw Value.nilFunc] } := by kernel_rfl
theorem ty_92 : ty Tryz.prog 92 = { kind := 9, size := 1, bytes := 8, zero := [V.raw Value.nilFunc] } := by kernel_rfl
theorem ty_93 : ty Tryz.prog 93 = { kind := 9, size := 1, bytes := 8, zero := [V.raw Value.nilFunc] } := by kernel_rfl
theorem ty_94 : ty Tryz.prog 94 = { kind := 9, size := 1, bytes := 8, zero := [V.raw Value.nilFunc] } := by kernel_rfl
theorem ty_95 : ty Tryz.prog 95 = { kind := 9, size := 1, bytes := 8, zero := [V.raw Value.nilFunc] } := by kernel_rfl
theorem ty_96 : ty Tryz.prog 96 = { kind := 9, size := 1, bytes := 8, zero := [V.raw Value.nilFunc] } := by kernel_rfl
theorem ty_97 : ty Tryz.prog 97 = { kind := 9, size := 1, bytes := 8, zero := [V.raw Value.nilFunc] } := by kernel_rfl
theorem ty_98 : ty Tryz.prog 98 = { kind := 9, size := 1, bytes := 8, zero := [V.raw Value.nilFunc] } := by kernel_rfl
theorem ty_99 : ty Tryz.prog 99 = { kind := 9, size := 1, bytes := 8, zero := [V.raw Value.nilFunc] } := by kernel_rfl
theorem ty_100 : ty Tryz.prog 100 = { kind := 9, size := 1, bytes := 8, zero := [V.raw Value.nilFunc] } := by kernel_rfl
theorem ty_101 : ty Tryz.prog 101 = { kind := 6, size := 3, bytes := 24, agg := true, offs := [(0, 2), (1, 2), (2, 3)], zero := [V.int IntKind.i64 0, V.int IntKind.i64 0, V.int IntKind.i64 0] } := by kernel_rfl
theorem ty_102 : ty Tryz.prog 102 = { kind := 6, size := 3, bytes := 24, agg := true, offs := [(0, 2), (1, 2), (2, 3)], zero := [V.int IntKind.i64 0, V.int IntKind.i64 0, V.int IntKind.i64 0] } := by kernel_rfl
theorem ty_103 : ty Tryz.prog 103 = { kind := 6, size := 10, bytes := 104, agg := true, offs := [(0, 48), (3, 102), (6, 9), (7, 23), (8, 3), (9, 4)], zero := [V.int IntKind.i64 0, V.int IntKind.i64 0, V.int IntKind.i64 0, V.int IntKind.i64 0, V.int IntKind.i64 0, V.int IntKind.i64 0, V.str [], V.gs (Value.slice none 0 0) [], V.int IntKind.i64 0, V.bool false] } := by kernel_rfl
theorem ty_104 : ty Tryz.prog 104 = { kind := 6, size := 10, bytes := 104, agg := true, offs := [(0, 48), (3, 102), (6, 9), (7, 23), (8, 3), (9, 4)], zero := [V.int IntKind.i64 0, V.int IntKind.i64 0, V.int IntKind.i64 0, V.int IntKind.i64 0, V.int IntKind.i64 0, V.int IntKind.i64 0, V.str [], V.gs (Value.slice none 0 0) [], V.int IntKind.i64 0, V.bool false] } := by kernel_rfl
theorem ty_105 : ty Tryz.prog 105 = { kind := 9, size := 1, bytes := 8, zero := [V.raw Value.nilFunc] } := by kernel_rfl
theorem ty_106 : ty Tryz.prog 106 = { kind := 9, size := 1, bytes := 8, zero := [V.raw Value.nilFunc] } := by kernel_rfl
theorem ty_107 : ty Tryz.prog 107 = { kind := 9, size := 1, bytes := 8, zero := [V.raw Value.nilFunc] } := by kernel_rfl
theorem ty_108 : ty Tryz.prog 108 = { kind := 9, size := 1, bytes := 8, zero := [V.raw Value.nilFunc] } := by kernel_rfl
theorem ty_109 : ty Tryz.prog 109 = { kind := 9, size := 1, bytes := 8, zero := [V.raw Value.nilFunc] } := by kernel_rfl
theorem ty_110 : ty Tryz.prog 110 = { kind := 9, size := 1, bytes := 8, zero := [V.raw Value.nilFunc] } := by kernel_rfl
theorem ty_111 : ty Tryz.prog 111 = { kind := 11 } := by kernel_rfl
theorem ty_112 : ty Tryz.prog 112 = { kind := 9, size := 1, bytes := 8, zero := [V.raw Value.nilFunc] } := by kernel_rfl
theorem ty_113 : ty Tryz.prog 113 = { kind := 9, size := 1, bytes := 8, zero := [V.raw Value.nilFunc] } := by kernel_rfl
theorem ty_114 : ty Tryz.prog 114 = { kind := 9, size := 1, bytes := 8, zero := [V.raw Value.nilFunc] } := by kernel_rfl
theorem ty_115 : ty Tryz.prog 115 = { kind := 9, size := 1, bytes := 8, zero := [V.raw Value.nilFunc] } := by kernel_rfl
theorem ty_116 : ty Tryz.prog 116 = { kind := 9, size := 1, bytes := 8, zero := [V.raw Value.nilFunc] } := by kernel_rfl
theorem ty_117 : ty Tryz.prog 117 = { kind := 9, size := 1, bytes := 8, zero := [V.raw Value.nilFunc] } := by kernel_rfl
theorem ty_118 : ty Tryz.prog 118 = { kind := 11 } := by kernel_rfl
theorem ty_119 : ty Tryz.prog 119 = { kind := 9, size := 1, bytes := 8, zero := [V.raw Value.nilFunc] } := by kernel_rfl
theorem ty_120 : ty Tryz.prog 120 = { kind := 6, size := 2, bytes := 16, agg := true, offs := [(0, 3), (1, 3)], zero := [V.int IntKind.i64 0, V.int IntKind.i64 0] } := by kernel_rfl
theorem ty_121 : ty Tryz.prog 121 = { kind := 6, size := 2, bytes := 16, agg := true, offs := [(0, 3), (1, 3)], zero := [V.int IntKind.i64 0, V.int IntKind.i64 0] } := by kernel_rfl
theorem ty_122 : ty Tryz.prog 122 = { kind := 9, size := 1, bytes := 8, zero := [V.raw Value.nilFunc] } := by kernel_rfl
theorem ty_123 : ty Tryz.prog 123 = { kind := 9, size := 1, bytes := 8, zero := [V.raw Value.nilFunc] } := by kernel_rfl
theorem ty_124 : ty Tryz.prog 124 = { kind := 9, size := 1, bytes := 8, zero := [V.raw Value.nilFunc] } := by kernel_rfl
theorem ty_125 : ty Tryz.prog 125 = { kind := 9, size := 1, bytes := 8, zero := [V.raw Value.nilFunc] } := by kernel_rfl
theorem ty_126 : ty Tryz.prog 126 = { kind := 9, size := 1, bytes := 8, zero := [V.raw Value.nilFunc] } := by kernel_rfl
theorem ty_127 : ty Tryz.prog 127 = { kind := 9, size := 1, bytes := 8, zero := [V.raw Value.nilFunc] } := by kernel_rfl
theorem ty_128 : ty Tryz.prog 128 = { kind := 11 } := by kernel_rfl
theorem ty_129 : ty Tryz.prog 129 = { kind := 9, size := 1, bytes := 8, zero := [V.raw Value.nilFunc] } := by kernel_rfl
theorem ty_130 : ty Tryz.prog 130 = { kind := 9, size := 1, bytes := 8, zero := [V.raw Value.nilFunc] } := by kernel_rfl
theorem ty_131 : ty Tryz.prog 131 = { kind := 9, size := 1, bytes := 8, zero := [V.raw Value.nilFunc] } := by kernel_rfl
theorem ty_132 : ty Tryz.prog 132 = { kind := 9, size := 1, bytes := 8, zero := [V.raw Value.nilFunc] } := by kernel_rfl
theorem ty_133 : ty Tryz.prog 133 = { kind := 9, size := 1, bytes := 8, zero := [V.raw Value.nilFunc] } := by kernel_rfl
theorem ty_134 : ty Tryz.prog 134 = { kind := 9, size := 1, bytes := 8, zero := [V.raw Value.nilFunc] } := by kernel_rfl
theorem ty_135 : ty Tryz.prog 135 = { kind := 9, size := 1, bytes := 8, zero := [V.raw Value.nilFunc] } := by kernel_rfl
theorem ty_136 : ty Tryz.prog 136 = { kind := 9, size := 1, bytes := 8, zero := [V.raw Value.nilFunc] } := by kernel_rfl
theorem ty_137 : ty Tryz.prog 137 = { kind := 9, size := 1, bytes := 8, zero := [V.raw Value.nilFunc] } := by kernel_rfl
theorem ty_138 : ty Tryz.prog 138 = { kind := 5, size := 10, bytes := 160, agg := true, elem := 9, len := 10, zero := [V.str [], V.str [], V.str [], V.str [], V.str [], V.str [], V.str [], V.str [], V.str [], V.str []] } := by kernel_rfl
theorem ty_139 : ty Tryz.prog 139 = { kind := 9, size := 1, bytes := 8, zero := [V.raw Value.nilFunc] } := by kernel_rfl
theorem ty_140 : ty Tryz.prog 140 = { kind := 9, size := 1, bytes := 8, zero := [V.raw Value.nilFunc] } := by kernel_rfl
theorem ty_141 : ty Tryz.prog 141 = { kind := 9, size := 1, bytes := 8, zero := [V.raw Value.nilFunc] } := by kernel_rfl
theorem ty_142 : ty Tryz.prog 142 = { kind := 9, size := 1, bytes := 8, zero := [V.raw Value.nilFunc] } := by kernel_rfl
theorem ty_143 : ty Tryz.prog 143 = { kind := 9, size := 1, bytes := 8, zero := [V.raw Value.nilFunc] } := by kernel_rfl
theorem ty_144 : ty Tryz.prog 144 = { kind := 9, size := 1, bytes := 8, zero := [V.raw Value.nilFunc] } := by kernel_rfl
theorem ty_145 : ty Tryz.prog 145 = { kind := 9, size := 1, bytes := 8, zero := [V.raw Value.nilFunc] } := by kernel_rfl
theorem ty_146 : ty Tryz.prog 146 = { kind := 9, size := 1, bytes := 8, zero := [V.raw Value.nilFunc] } := by kernel_rfl
theorem ty_147 : ty Tryz.prog 147 = { kind := 9, size := 1, bytes := 8, zero := [V.raw Value.nilFunc] } := by kernel_rfl
theorem ty_148 : ty Tryz.prog 148 = { kind := 9, size := 1, bytes := 8, zero := [V.raw Value.nilFunc] } := by kernel_rfl
theorem ty_149 : ty Tryz.prog 149 = { kind := 9, size := 1, bytes := 8, zero := [V.raw Value.nilFunc] } := by kernel_rfl
theorem ty_150 : ty Tryz.prog 150 = { kind := 9, size := 1, bytes := 8, zero := [V.raw Value.nilFunc] } := by kernel_rfl
theorem ty_151 : ty Tryz.prog 151 = { kind := 9, size := 1, bytes := 8, zero := [V.raw Value.nilFunc] } := by kernel_rfl
theorem ty_152 : ty Tryz.prog 152 = { kind := 9, size := 1, bytes := 8, zero := [V.raw Value.nilFunc] } := by kernel_rfl
theorem ty_153 : ty Tryz.prog 153 = { kind := 9, size := 1, bytes := 8, zero := [V.raw Value.nilFunc] } := by kernel_rfl
theorem ty_154 : ty Tryz.prog 154 = { kind := 9, size := 1, bytes := 8, zero := [V.raw Value.nilFunc] } := by kernel_rfl
theorem ty_155 : ty Tryz.prog 155 = { kind := 9, size := 1, bytes := 8, zero := [V.raw Value.nilFunc] } := by kernel_rfl
theorem ty_156 : ty Tryz.prog 156 = { kind := 9, size := 1, bytes := 8, zero := [V.raw Value.nilFunc] } := by kernel_rfl
theorem ty_157 : ty Tryz.prog 157 = { kind := 9, size := 1, bytes := 8, zero := [V.raw Value.nilFunc] } := by kernel_rfl
theorem ty_158 : ty Tryz.prog 158 = { kind := 9, size := 1, bytes := 8, zero := [V.raw Value.nilFunc] } := by kernel_rfl
theorem ty_159 : ty Tryz.prog 159 = { kind := 9, size := 1, bytes := 8, zero := [V.raw Value.nilFunc] } := by kernel_rfl
theorem ty_160 : ty Tryz.prog 160 = { kind := 9, size := 1, bytes := 8, zero := [V.raw Value.nilFunc] } := by kernel_rfl
theorem ty_161 : ty Tryz.prog 161 = { kind := 9, size := 1, bytes := 8, zero := [V.raw Value.nilFunc] } := by kernel_rfl
theorem ty_162 : ty Tryz.prog 162 = { kind := 2, size := 1, bytes := 8, ik := some IntKind.u64, zero := [V.int IntKind.u64 0] } := by kernel_rfl
theorem ty_163 : ty Tryz.prog 163 = { kind := 9, size := 1, bytes := 8, zero := [V.raw Value.nilFunc] } := by kernel_rfl
theorem ty_164 : ty Tryz.prog 164 = { kind := 9, size := 1, bytes := 8, zero := [V.raw Value.nilFunc] } := by kernel_rfl
theorem ty_165 : ty Tryz.prog 165 = { kind := 9, size := 1, bytes := 8, zero := [V.raw Value.nilFunc] } := by kernel_rfl
theorem ty_166 : ty Tryz.prog 166 = { kind := 9, size := 1, bytes := 8, zero := [V.raw Value.nilFunc] } := by kernel_rfl
theorem ty_167 : ty Tryz.prog 167 = { kind := 9, size := 1, bytes := 8, zero := [V.raw Value.nilFunc] } := by kernel_rfl
theorem ty_168 : ty Tryz.prog 168 = { kind := 9, size := 1, bytes := 8, zero := [V.raw Value.nilFunc] } := by kernel_rfl
theorem ty_169 : ty Tryz.prog 169 = { kind := 9, size := 1, bytes := 8, zero := [V.raw Value.nilFunc] } := by kernel_rfl
theorem ty_170 : ty Tryz.prog 170 = { kind := 9, size := 1, bytes := 8, zero := [V.raw Value.nilFunc] } := by kernel_rfl
theorem ty_171 : ty Tryz.prog 171 = { kind := 9, size := 1, bytes := 8, zero := [V.raw Value.nilFunc] } := by kernel_rfl
theorem ty_172 : ty Tryz.prog 172 = { kind := 8, size := 1, bytes := 8, elem := 4, key := 48, zero := [V.raw (Value.map none)] } := by kernel_rfl
theorem ty_173 : ty Tryz.prog 173 = { kind := 8, size := 1, bytes := 8, elem := 4, key := 175, zero := [V.raw (Value.map none)] } := by kernel_rfl
theorem ty_174 : ty Tryz.prog 174 = { kind := 6, size := 3, bytes := 32, agg := true, offs := [(0, 3), (1, 3), (2, 9)], zero := [V.int IntKind.i64 0, V.int IntKind.i64 0, V.str []] } := by kernel_rfl
theorem ty_175 : ty Tryz.prog 175 = { kind := 6, size := 3, bytes := 32, agg := true, offs := [(0, 3), (1, 3), (2, 9)], zero := [V.int IntKind.i64 0, V.int IntKind.i64 0, V.str []] } := by kernel_rfl
theorem ty_176 : ty Tryz.prog 176 = { kind := 9, size := 1, bytes := 8, zero := [V.raw Value.nilFunc] } := by kernel_rfl
theorem ty_177 : ty Tryz.prog 177 = { kind := 9, size := 1, bytes := 8, zero := [V.raw Value.nilFunc] } := by kernel_rfl
theorem ty_178 : ty Tryz.prog 178 = { kind := 9, size := 1, bytes := 8, zero := [V.raw Value.nilFunc] } := by kernel_rfl
theorem ty_179 : ty Tryz.prog 179 = { kind := 9, size := 1, bytes := 8, zero := [V.raw Value.nilFunc] } := by kernel_rfl
theorem ty_180 : ty Tryz.prog 180 = { kind := 9, size := 1, bytes := 8, zero := [V.raw Value.nilFunc] } := by kernel_rfl
theorem ty_181 : ty Tryz.prog 181 = { kind := 9, size := 1, bytes := 8, zero := [V.raw Value.nilFunc] } := by kernel_rfl
theorem ty_182 : ty Tryz.prog 182 = { kind := 9, size := 1, bytes := 8, zero := [V.raw Value.nilFunc] } := by kernel_rfl
theorem ty_183 : ty Tryz.prog 183 = { kind := 9, size := 1, bytes := 8, zero := [V.raw Value.nilFunc] } := by kernel_rfl
theorem ty_184 : ty Tryz.prog 184 = { kind := 9, size := 1, bytes := 8, zero := [V.raw Value.nilFunc] } := by kernel_rfl
theorem ty_185 : ty Tryz.prog 185 = { kind := 9, size := 1, bytes := 8, zero := [V.raw Value.nilFunc] } := by kernel_rfl
theorem ty_186 : ty Tryz.prog 186 = { kind := 9, size := 1, bytes := 8, zero := [V.raw Value.nilFunc] } := by kernel_rfl
theorem ty_187 : ty Tryz.prog 187 = { kind := 9, size := 1, bytes := 8, zero := [V.raw Value.nilFunc] } := by kernel_rfl
theorem ty_188 : ty Tryz.prog 188 = { kind := 9, size := 1, bytes := 8, zero := [V.raw Value.nilFunc] } := by kernel_rfl
theorem ty_189 : ty Tryz.prog 189 = { kind := 2, size := 1, bytes := 8, ik := some IntKind.i64, zero := [V.int IntKind.i64 0] } := by kernel_rfl
theorem ty_190 : ty Tryz.prog 190 = { kind := 11 } := by kernel_rfl
theorem ty_191 : ty Tryz.prog 191 = { kind := 9, size := 1, bytes := 8, zero := [V.raw Value.nilFunc] } := by kernel_rfl
theorem ty_192 : ty Tryz.prog 192 = { kind := 9, size := 1, bytes := 8, zero := [V.raw Value.nilFunc] } := by kernel_rfl
theorem ty_193 : ty Tryz.prog 193 = { kind := 9, size := 1, bytes := 8, zero := [V.raw Value.nilFunc] } := by kernel_rfl
theorem ty_194 : ty Tryz.prog 194 = { kind := 9, size := 1, bytes := 8, zero := [V.raw Value.nilFunc] } := by kernel_rfl
theorem ty_195 : ty Tryz.prog 195 = { kind := 9, size := 1, bytes := 8, zero := [V.raw Value.nilFunc] } := by kernel_rfl
theorem ty_196 : ty Tryz.prog 196 = { kind := 2, size := 1, bytes := 4, ik := some IntKind.u32, zero := [V.int IntKind.u32 0] } := by kernel_rfl
theorem ty_197 : ty Tryz.prog 197 = { kind := 9, size := 1, bytes := 8, zero := [V.raw Value.nilFunc] } := by kernel_rfl
theorem ty_198 : ty Tryz.prog 198 = { kind := 9, size := 1, bytes := 8, zero := [V.raw Value.nilFunc] } := by kernel_rfl
theorem ty_199 : ty Tryz.prog 199 = { kind := 9, size := 1, bytes := 8, zero := [V.raw Value.nilFunc] } := by kernel_rfl
theorem ty_200 : ty Tryz.prog 200 = { kind := 9, size := 1, bytes := 8, zero := [V.raw Value.nilFunc] } := by kernel_rfl
theorem ty_201 : ty Tryz.prog 201 = { kind := 9, size := 1, bytes := 8, zero := [V.raw Value.nilFunc] } := by kernel_rfl
theorem ty_202 : ty Tryz.prog 202 = { kind := 9, size := 1, bytes := 8, zero := [V.raw Value.nilFunc] } := by kernel_rfl
theorem ty_203 : ty Tryz.prog 203 = { kind := 11 } := by kernel_rfl
theorem ty_204 : ty Tryz.prog 204 = { kind := 9, size := 1, bytes := 8, zero := [V.raw Value.nilFunc] } := by kernel_rfl
theorem ty_205 : ty Tryz.prog 205 = { kind := 11 } := by kernel_rfl
theorem ty_206 : ty Tryz.prog 206 = { kind := 9, size := 1, bytes := 8, zero := [V.raw Value.nilFunc] } := by kernel_rfl
theorem ty_207 : ty Tryz.prog 207 = { kind := 9, size := 1, bytes := 8, zero := [V.raw Value.nilFunc] } := by kernel_rfl
theorem ty_208 : ty Tryz.prog 208 = { kind := 9, size := 1, bytes := 8, zero := [V.raw Value.nilFunc] } := by kernel_rfl
theorem ty_209 : ty Tryz.prog 209 = { kind := 9, size := 1, bytes := 8, zero := [V.raw Value.nilFunc] } := by kernel_rfl
theorem ty_210 : ty Tryz.prog 210 = { kind := 9, size := 1, bytes := 8, zero := [V.raw Value.nilFunc] } := by kernel_rfl
theorem ty_211 : ty Tryz.prog 211 = { kind := 2, size := 1, bytes := 8, ik := some IntKind.u64, zero := [V.int IntKind.u64 0] } := by kernel_rfl
theorem ty_212 : ty Tryz.prog 212 = { kind := 9, size := 1, bytes := 8, zero := [V.raw Value.nilFunc] } := by kernel_rfl
theorem ty_213 : ty Tryz.prog 213 = { kind := 9, size := 1, bytes := 8, zero := [V.raw Value.nilFunc] } := by kernel_rfl
theorem ty_214 : ty Tryz.prog 214 = { kind := 7, size := 1, bytes := 8, elem := 3, zero := [V.raw (Value.pointer none)] } := by kernel_rfl
theorem ty_215 : ty Tryz.prog 215 = { kind := 9, size := 1, bytes := 8, zero := [V.raw Value.nilFunc] } := by kernel_rfl
theorem ty_216 : ty Tryz.prog 216 = { kind := 9, size := 1, bytes := 8, zero := [V.raw Value.nilFunc] } := by kernel_rfl
theorem ty_217 : ty Tryz.prog 217 = { kind := 9, size := 1, bytes := 8, zero := [V.raw Value.nilFunc] } := by kernel_rfl
theorem ty_218 : ty Tryz.prog 218 = { kind := 9, size := 1, bytes := 8, zero := [V.raw Value.nilFunc] } := by kernel_rfl
theorem ty_219 : ty Tryz.prog 219 = { kind := 9, size := 1, bytes := 8, zero := [V.raw Value.nilFunc] } := by kernel_rfl
theorem ty_220 : ty Tryz.prog 220 = { kind := 9, size := 1, bytes := 8, zero := [V.raw Value.nilFunc] } := by kernel_rfl
theorem ty_221 : ty Tryz.prog 221 = { kind := 9, size := 1, bytes := 8, zero := [V.raw Value.nilFunc] } := by kernel_rfl
theorem ty_222 : ty Tryz.prog 222 = { kind := 7, size := 1, bytes := 8, elem := 211, zero := [V.raw (Value.pointer none)] } := by kernel_rfl
theorem ty_223 : ty Tryz.prog 223 = { kind := 11 } := by kernel_rfl
theorem ty_224 : ty Tryz.prog 224 = { kind := 9, size := 1, bytes := 8, zero := [V.raw Value.nilFunc] } := by kernel_rfl
theorem ty_225 : ty Tryz.prog 225 = { kind := 9, size := 1, bytes := 8, zero := [V.raw Value.nilFunc] } := by kernel_rfl
theorem ty_226 : ty Tryz.prog 226 = { kind := 9, size := 1, bytes := 8, zero := [V.raw Value.nilFunc] } := by kernel_rfl
theorem ty_227 : ty Tryz.prog 227 = { kind := 5, size := 256, bytes := 256, agg := true, elem := 5, len := 256, zero := [V.int IntKind.u8 0, V.int IntKind.u8 0, V.int IntKind.u8 0, V.int IntKind.u8 0, V.int IntKind.u8 0, V.int IntKind.u8 0, V.int IntKind.u8 0, V.int IntKind.u8 0, V.int IntKind.u8 0, V.int IntKind.u8 0, V.int IntKind.u8 0, V.int IntKind.u8 0, V.int IntKind.u8 0, V.int IntKind.u8 0, V.int IntKind.u8 0, V.int IntKind.u8 0, V.int IntKind.u8 0, V.int IntKind.u8 0, V.int IntKind.u8 0, V.int IntKind.u8 0, V.int IntKind.u8 0, V.int IntKind.u8 0, V.int IntKind.u8 0, V.int IntKind.u8 0, V.int IntKind.u8 0, V.int IntKind.u8 0, V.int IntKind.u8 0, V.int IntKind.u8 0, V.int IntKind.u8 0, V.int IntKind.u8 0, V.int IntKind.u8 0, V.int IntKind.u8 0, V.int IntKind.u8 0, V.int IntKind.u8 0, V.int IntKind.u8 0, V.int IntKind.u8 0, V.int IntKind.u8 0, V.int IntKind.u8 0, V.int IntKind.u8 0, V.int IntKind.u8 0, V.int IntKind.u8 0, V.int IntKind.u8 0, V.int IntKind.u8 0, V.int IntKind.u8 0, V.int IntKind.u8 0, V.int IntKind.u8 0, V.int IntKind.u8 0, V.int IntKind.u8 0, V.int IntKind.u8 0, V.int IntKind.u8 0, V.int IntKind.u8 0, V.int IntKind.u8 0, V.int IntKind.u8 0, V.int IntKind.u8 0, V.int IntKind.u8 0, V.int IntKind.u8 0, V.int IntKind.u8 0, V.int IntKind.u8 0, V.int IntKind.u8 0, V.int IntKind.u8 0, V.int IntKind.u8 0, V.int IntKind.u8 0, V.int IntKind.u8 0, V.int IntKind.u8 0, V.int IntKind.u8 0, V.int IntKind.u8 0, V.int IntKind.u8 0, V.int IntKind.u8 0, V.int IntKind.u8 0, V.int IntKind.u8 0, V.int IntKind.u8 0, V.int IntKind.u8 0, V.int IntKind.u8 0, V.int IntKind.u8 0, V.int IntKind.u8 0, V.int IntKind.u8 0, V.int IntKind.u8 0, V.int IntKind.u8 0, V.int IntKind.u8 0, V.int IntKind.u8 0, V.int IntKind.u8 0, V.int IntKind.u8 0, V.int IntKind.u8 0, V.int IntKind.u8 0, V.int IntKind.u8 0, V.int IntKind.u8 0, V.int IntKind.u8 0, V.int IntKind.u8 0, V.int IntKind.u8 0, V.int IntKind.u8 0, V.int IntKind.u8 0, V.int IntKind.u8 0, V.int IntKind.u8 0, V.int IntKind.u8 0, V.int IntKind.u8 0, V.int IntKind.u8 0, V.int IntKind.u8 0, V.int IntKind.u8 0, V.int IntKind.u8 0, V.int IntKind.u8 0, V.int IntKind.u8 0, V.int IntKind.u8 0, V.int IntKind.u8 0, V.int IntKind.u8 0, V.int IntKind.u8 0, V.int IntKind.u8 0, V.int IntKind.u8 0, V.int IntKind.u8 0, V.int IntKind.u8 0, V.int IntKind.u8 0, V.int IntKind.u8 0, V.int IntKind.u8 0, V.int IntKind.u8 0, V.int IntKind.u8 0, V.int IntKind.u8 0, V.int IntKind.u8 0, V.int IntKind.u8 0, V.int IntKind.u8 0, V.int IntKind.u8 0, V.int IntKind.u8 0, V.int IntKind.u8 0, V.int IntKind.u8 0, V.int IntKind.u8 0, V.int IntKind.u8 0, V.int IntKind.u8 0, V.int IntKind.u8 0, V.int IntKind.u8 0, V.int IntKind.u8 0, V.int IntKind.u8 0, V.int IntKind.u8 0, V.int IntKind.u8 0, V.int IntKind.u8 0, V.int IntKind.u8 0, V.int IntKind.u8 0, V.int IntKind.u8 0, V.int IntKind.u8 0, V.int IntKind.u8 0, V.int IntKind.u8 0, V.int IntKind.u8 0, V.int IntKind.u8 0, V.int IntKind.u8 0, V.int IntKind.u8 0, V.int IntKind.u8 0, V.int IntKind.u8 0, V.int IntKind.u8 0, V.int IntKind.u8 0, V.int IntKind.u8 0, V.int IntKind.u8 0, V.int IntKind.u8 0, V.int IntKind.u8 0, V.int IntKind.u8 0, V.int IntKind.u8 0, V.int IntKind.u8 0, V.int IntKind.u8 0, V.int IntKind.u8 0, V.int IntKind.u8 0, V.int IntKind.u8 0, V.int IntKind.u8 0, V.int IntKind.u8 0, V.int IntKind.u8 0, V.int IntKind.u8 0, V.int IntKind.u8 0, V.int IntKind.u8 0, V.int IntKind.u8 0, V.int IntKind.u8 0, V.int IntKind.u8 0, V.int IntKind.u8 0, V.int IntKind.u8 0, V.int IntKind.u8 0, V.int IntKind.u8 0, V.int IntKind.u8 0, V.int IntKind.u8 0, V.int IntKind.u8 0, V.int IntKind.u8 0, V.int IntKind.u8 0, V.int IntKind.u8 0, V.int IntKind.u8 0, V.int IntKind.u8 0, V.int IntKind.u8 0, V.int IntKind.u8 0, V.int IntKind.u8 0, V.int IntKind.u8 0, V.int IntKind.u8 0, V.int IntKind.u8 0, V.int IntKind.u8 0, V.int IntKind.u8 0, V.int IntKind.u8 0, V.int IntKind.u8 0, V.int IntKind.u8 0, V.int IntKind.u8 0, V.int IntKind.u8 0, V.int IntKind.u8 0, V.int IntKind.u8 0, V.int IntKind.u8 0, V.int IntKind.u8 0, V.int IntKind.u8 0, V.int IntKind.u8 0, V.int IntKind.u8 0, V.int IntKind.u8 0, V.int IntKind.u8 0, V.int IntKind.u8 0, V.int IntKind.u8 0, V.int IntKind.u8 0, V.int IntKind.u8 0, V.int IntKind.u8 0, V.int IntKind.u8 0, V.int IntKind.u8 0, V.int IntKind.u8 0, V.int IntKind.u8 0, V.int IntKind.u8 0, V.int IntKind.u8 0, V.int IntKind.u8 0, V.int IntKind.u8 0, V.int IntKind.u8 0, V.int IntKind.u8 0, V.int IntKind.u8 0, V.int IntKind.u8 0, V.int IntKind.u8 0, V.int IntKind.u8 0, V.int IntKind.u8 0, V.int IntKind.u8 0, V.int IntKind.u8 0, V.int IntKind.u8 0, V.int IntKind.u8 0, V.int IntKind.u8 0, V.int IntKind.u8 0, V.int IntKind.u8 0, V.int IntKind.u8 0, V.int IntKind.u8 0, V.int IntKind.u8 0, V.int IntKind.u8 0, V.int IntKind.u8 0, V.int IntKind.u8 0, V.int IntKind.u8 0, V.int IntKind.u8 0, V.int IntKind.u8 0, V.int IntKind.u8 0, V.int IntKind.u8 0, V.int IntKind.u8 0, V.int IntKind.u8 0, V.int IntKind.u8 0, V.int IntKind.u8 0, V.int IntKind.u8 0, V.int IntKind.u8 0, V.int IntKind.u8 0, V.int IntKind.u8 0, V.int IntKind.u8 0, V.int IntKind.u8 0, V.int IntKind.u8 0, V.int IntKind.u8 0, V.int IntKind.u8 0, V.int IntKind.u8 0, V.int IntKind.u8 0, V.int IntKind.u8 0, V.int IntKind.u8 0, V.int IntKind.u8 0] } := by kernel_rfl
theorem ty_228 : ty Tryz.prog 228 = { kind := 6, size := 2, bytes := 2, agg := true, offs := [(0, 5), (1, 5)], zero := [V.int IntKind.u8 0, V.int IntKind.u8 0] } := by kernel_rfl
theorem ty_229 : ty Tryz.prog 229 = { kind := 6, size := 2, bytes := 2, agg := true, offs := [(0, 5), (1, 5)], zero := [V.int IntKind.u8 0, V.int IntKind.u8 0] } := by kernel_rfl
theorem ty_230 : ty Tryz.prog 230 = { kind := 5, size := 32, bytes := 32, agg := true, elem := 229, len := 16, zero := [V.int IntKind.u8 0, V.int IntKind.u8 0, V.int IntKind.u8 0, V.int IntKind.u8 0, V.int IntKind.u8 0, V.int IntKind.u8 0, V.int IntKind.u8 0, V.int IntKind.u8 0, V.int IntKind.u8 0, V.int IntKind.u8 0, V.int IntKind.u8 0, V.int IntKind.u8 0, V.int IntKind.u8 0, V.int IntKind.u8 0, V.int IntKind.u8 0, V.int IntKind.u8 0, V.int IntKind.u8 0, V.int IntKind.u8 0, V.int IntKind.u8 0, V.int IntKind.u8 0, V.int IntKind.u8 0, V.int IntKind.u8 0, V.int IntKind.u8 0, V.int IntKind.u8 0, V.int IntKind.u8 0, V.int IntKind.u8 0, V.int IntKind.u8 0, V.int IntKind.u8 0, V.int IntKind.u8 0, V.int IntKind.u8 0, V.int IntKind.u8 0, V.int IntKind.u8 0] } := by kernel_rfl
theorem ty_231 : ty Tryz.prog 231 = { kind := 9, size := 1, bytes := 8, zero := [V.raw Value.nilFunc] } := by kernel_rfl
theorem ty_232 : ty Tryz.prog 232 = { kind := 9, size := 1, bytes := 8, zero := [V.raw Value.nilFunc] } := by kernel_rfl
theorem ty_233 : ty Tryz.prog 233 = { kind := 9, size := 1, bytes := 8, zero := [V.raw Value.nilFunc] } := by kernel_rfl
theorem ty_234 : ty Tryz.prog 234 = { kind := 9, size := 1, bytes := 8, zero := [V.raw Value.nilFunc] } := by kernel_rfl
theorem ty_235 : ty Tryz.prog 235 = { kind := 11 } := by kernel_rfl
theorem ty_236 : ty Tryz.prog 236 = { kind := 9, size := 1, bytes := 8, zero := [V.raw Value.nilFunc] } := by kernel_rfl
theorem ty_237 : ty Tryz.prog 237 = { kind := 6, size := 4, bytes := 40, agg := true, offs := [(0, 17), (1, 17), (2, 17), (3, 9)], zero := [V.raw (Value.pointer none), V.raw (Value.pointer none), V.raw (Value.pointer none), V.str []] } := by kernel_rfl
theorem ty_238 : ty Tryz.prog 238 = { kind := 6, size := 4, bytes := 40, agg := true, offs := [(0, 17), (1, 17), (2, 17), (3, 9)], zero := [V.raw (Value.pointer none), V.raw (Value.pointer none), V.raw (Value.pointer none), V.str []] } := by kernel_rfl
theorem ty_239 : ty Tryz.prog 239 = { kind := 5, agg := true, elem := 16 } := by kernel_rfl
theorem ty_240 : ty Tryz.prog 240 = { kind := 6, agg := true, offs := [(0, 239)] } := by kernel_rfl
theorem ty_241 : ty Tryz.prog 241 = { kind := 6, agg := true, offs := [(0, 239)] } := by kernel_rfl
theorem ty_242 : ty Tryz.prog 242 = { kind := 2, size := 1, bytes := 1, ik := some IntKind.u8, zero := [V.int IntKind.u8 0] } := by kernel_rfl
theorem ty_243 : ty Tryz.prog 243 = { kind := 2, size := 1, bytes := 1, ik := some IntKind.u8, zero := [V.int IntKind.u8 0] } := by kernel_rfl
theorem ty_244 : ty Tryz.prog 244 = { kind := 9, size := 1, bytes := 8, zero := [V.raw Value.nilFunc] } := by kernel_rfl
theorem ty_245 : ty Tryz.prog 245 = { kind := 7, size := 1, bytes := 8, elem := 5, zero := [V.raw (Value.pointer none)] } := by kernel_rfl
theorem ty_246 : ty Tryz.prog 246 = { kind := 2, size := 1, bytes := 4, ik := some IntKind.i32, zero := [V.int IntKind.i32 0] } := by kernel_rfl
theorem ty_247 : ty Tryz.prog 247 = { kind := 2, size := 1, bytes := 4, ik := some IntKind.i32, zero := [V.int IntKind.i32 0] } := by kernel_rfl
theorem ty_248 : ty Tryz.prog 248 = { kind := 6, size := 11, bytes := 48, agg := true, offs := [(0, 12), (1, 12), (2, 196), (3, 242), (4, 5), (5, 5), (6, 243), (7, 244), (8, 245), (9, 246), (10, 247)], zero := [V.int IntKind.u64 0, V.int IntKind.u64 0, V.int IntKind.u32 0, V.int IntKind.u8 0, V.int IntKind.u8 0, V.int IntKind.u8 0, V.int IntKind.u8 0, V.raw Value.nilFunc, V.raw (Value.pointer none), V.int IntKind.i32 0, V.int IntKind.i32 0] } := by kernel_rfl
theorem ty_249 : ty Tryz.prog 249 = { kind := 6, size := 11, bytes := 48, agg := true, offs := [(0, 12), (1, 12), (2, 196), (3, 242), (4, 5), (5, 5), (6, 243), (7, 244), (8, 245), (9, 246), (10, 247)], zero := [V.int IntKind.u64 0, V.int IntKind.u64 0, V.int IntKind.u32 0, V.int IntKind.u8 0, V.int IntKind.u8 0, V.int IntKind.u8 0, V.int IntKind.u8 0, V.raw Value.nilFunc, V.raw (Value.pointer none), V.int IntKind.i32 0, V.int IntKind.i32 0] } := by kernel_rfl
theorem ty_250 : ty Tryz.prog 250 = { kind := 11 } := by kernel_rfl
theorem eqT_48 : eqT Tryz.prog 48 = some [2, 2, 2] := by kernel_rfl
theorem eqT_50 : eqT Tryz.prog 50 = some [2, 2, 2, 3] := by kernel_rfl
theorem eqT_102 : eqT Tryz.prog 102 = some [2, 2, 2] := by kernel_rfl
theorem eqT_121 : eqT Tryz.prog 121 = some [2, 2] := by kernel_rfl
end Go.Proofs.YtfamfamgopchnaaGreatDoor
/- The rewrite rules of the walk as one set; loops behind their block. No statement of the program. -/
namespace Go.Proofs.YtfamfamgopchnaaGreatDoor
open Go.RowKit
set_option linter.unusedSimpArgs false
set_option linter.unusedVariables false
set_option linter.unusedSectionVars false

theorem tEq (b : Bool) : (true = b) = (b = true) := by cases b <;> simp
theorem fEq (b : Bool) : (false = b) = (b = false) := by cases b <;> simp
theorem tBeq (b : Bool) : (true == b) = b := by cases b <;> rfl
theorem fBeq (b : Bool) : (false == b) = !b := by cases b <;> rfl
theorem beqT (b : Bool) : (b == true) = b := by cases b <;> rfl
theorem beqF (b : Bool) : (b == false) = !b := by cases b <;> rfl
theorem beqSelf (b : Bool) : (b == b) = true := by cases b <;> rfl
theorem bneI (a : Int) : (a != a) = false := by simp
theorem beqI (a : Int) : (a == a) = true := by simp
attribute [push_cast] tBeq fBeq beqT beqF beqSelf bneI beqI Bool.not_not
attribute [push_cast] FV_nil FV_cons FVr_eq FVg_tt FVg_tf FVg_ft FVg_ff FVg_tup FD_nil FD_cons FDr_eq FDg_tt FDg_tf FDg_ft FDg_ff FDg_tup isF side val opd_tmp opd_const opd_global opd_func get_nil get_cons put_nil put_cons putO_some putO_none keepL_nil keepL_cons ofConst ofConst1 gval gd_true gd_false gf_true gf_false gd_tup gf_tup pickV binV binS unV unS convV convS partV partS lenV lenS idxAddrV idxAddrS idxV idxS sliceV bndS sliceS mmV mmS V.cs V.n V.solid V.one V.flat AppS_iff srcL List.forall_mem_map List.forall_mem_cons List.not_mem_nil false_implies implies_true forall_const lay_cons lay_len lay_zero lay_nil fillV fillS splitV loN hiN List.replicate_succ List.replicate_zero List.flatten_cons List.flatten_nil nilQ nilK eqR eqL eqTS eqLS nilS spS Option.isSome_some Option.isNone_some Option.isNone_none dropD List.length_drop List.append_assoc if_true if_false true_and and_true Bool.false_eq_true Bool.not_true Bool.not_false Bool.true_eq_false ne_eq not_false_eq_true List.getD_cons_zero List.getD_cons_succ List.drop_succ_cons List.drop_zero List.take_succ_cons List.take_zero List.take_nil List.drop_nil List.length_cons List.length_nil List.map_cons List.map_nil Option.map_some Option.map_none Option.bind_some List.toList_toArray List.getElem?_toArray List.getElem?_cons_zero List.getElem?_cons_succ List.contains_cons List.contains_nil List.append_nil List.nil_append List.cons_append List.nil_eq List.all_cons List.all_nil Int.toNat_natCast Nat.zero_add Nat.add_zero not_true_eq_false Nat.zero_mul Nat.one_mul Nat.mul_one List.length_map keep retV one_ addr_mk wrap_i64 wrap_u64 wrap_u8 wrap_i32 wrap_u32 getD_enc List.length_append List.length_replicate Bool.or_false Bool.or_true Bool.true_or Bool.false_or Bool.and_true Bool.true_and Bool.and_false Bool.false_and BEq.rfl and_self and_imp eq_self or_false false_or or_true true_or false_and and_false placeT RetK_nil RetK_tmp Both_r Both_l AppA_iff cells_nil cells_cons cells_append
attribute [push_cast] ty_0 ty_1 ty_2 ty_3 ty_4 ty_5 ty_6 ty_7 ty_8 ty_9 ty_10 ty_11 ty_12 ty_13 ty_14 ty_15 ty_16 ty_17 ty_18 ty_19 ty_20 ty_21 ty_22 ty_23 ty_24 ty_25 ty_26 ty_27 ty_28 ty_29 ty_30 ty_31 ty_32 ty_33 ty_34 ty_35 ty_36 ty_37 ty_38 ty_39 ty_40 ty_41 ty_42 ty_43 ty_44 ty_45 ty_46 ty_47 ty_48 ty_49 ty_50 ty_51 ty_52 ty_53 ty_54 ty_55 ty_56 ty_57 ty_58 ty_59 ty_60 ty_61 ty_62 ty_63 ty_64 ty_65 ty_66 ty_67 ty_68 ty_69 ty_70 ty_71 ty_72 ty_73 ty_74 ty_75 ty_76 ty_77 ty_78 ty_79 ty_80 ty_81 ty_82 ty_83 ty_84 ty_85 ty_86 ty_87 ty_88 ty_89 ty_90 ty_91 ty_92 ty_93 ty_94 ty_95 ty_96 ty_97 ty_98 ty_99 ty_100 ty_101 ty_102 ty_103 ty_104 ty_105 ty_106 ty_107 ty_108 ty_109 ty_110 ty_111 ty_112 ty_113 ty_114 ty_115 ty_116 ty_117 ty_118 ty_119 ty_120 ty_121 ty_122 ty_123 ty_124 ty_125 ty_126 ty_127 ty_128 ty_129 ty_130 ty_131 ty_132 ty_133 ty_134 ty_135 ty_136 ty_137 ty_138 ty_139 ty_140 ty_141 ty_142 ty_143 ty_144 ty_145 ty_146 ty_147 ty_148 ty_149 ty_150 ty_151 ty_152 ty_153 ty_154 ty_155 ty_156 ty_157 ty_158 ty_159 ty_160 ty_161 ty_162 ty_163 ty_164 ty_165 ty_166 ty_167 ty_168 ty_169 ty_170 ty_171 ty_172 ty_173 ty_174 ty_175 ty_176 ty_177 ty_178 ty_179 ty_180 ty_181 ty_182 ty_183 ty_184 ty_185 ty_186 ty_187 ty_188 ty_189 ty_190 ty_191 ty_192 ty_193 ty_194 ty_195 ty_196 ty_197 ty_198 ty_199 ty_200 ty_201 ty_202 ty_203 ty_204 ty_205 ty_206 ty_207 ty_208 ty_209 ty_210 ty_211 ty_212 ty_213 ty_214 ty_215 ty_216 ty_217 ty_218 ty_219 ty_220 ty_221 ty_222 ty_223 ty_224 ty_225 ty_226 ty_227 ty_228 ty_229 ty_230 ty_231 ty_232 ty_233 ty_234 ty_235 ty_236 ty_237 ty_238 ty_239 ty_240 ty_241 ty_242 ty_243 ty_244 ty_245 ty_246 ty_247 ty_248 ty_249 ty_250 eqT_48 eqT_50 eqT_102 eqT_121

/-- What closes a side condition. -/
theorem sv {p : Prop} (h : p := by first | exact True.intro | omega | assumption | (simp <;> fail) | (simp; omega) | (refine ⟨?_, ?_⟩ <;> first | omega | assumption | (simp <;> fail) | (simp; omega)) | (refine ⟨?_, ?_, ?_⟩ <;> first | omega | assumption | (simp <;> fail) | (simp; omega)) | fail) : p := h
/-- What a branch has asked, read. -/
theorem hbs : (∀ (p : Prop) [Decidable p], (decide p = true) = p) ∧ (∀ (p : Prop) [Decidable p], decide p = false ↔ ¬ p) ∧ (∀ {α : Type} [BEq α] [LawfulBEq α] {a b : α}, (a == b) = true ↔ a = b) ∧ (∀ {α : Type} [BEq α] [LawfulBEq α] {a b : α}, (a != b) = true ↔ a ≠ b) ∧
    (∀ {α : Type} (a b : α), (a ≠ b) = ¬ (a = b)) ∧ (∀ {α : Type} [BEq α] [LawfulBEq α] {a b : α}, (a == b) = false ↔ a ≠ b) ∧ (∀ {α : Type} [BEq α] [LawfulBEq α] {a b : α}, (a != b) = false ↔ a = b) ∧
    (∀ a b : Bool, ((a && b) = true) = (a = true ∧ b = true)) ∧ (∀ a : Bool, (a && true) = a) ∧ (∀ a : Bool, ((!a) = true) = (a = false)) ∧ (∀ a : Bool, ((!a) = false) = (a = true)) ∧ (∀ {a b : Int}, ¬ a < b ↔ b ≤ a) ∧ (∀ {a b : Int}, ¬ a ≤ b ↔ b < a) ∧
    (∀ {a b : Prop}, ¬ (a ∧ b) ↔ (a → ¬ b)) ∧ (∀ a b : Bool, ((!a) = b) = (a = !b)) ∧ ((!true) = false) ∧ ((!false) = true) ∧ (∀ b : Bool, (true = b) = (b = true)) ∧ (∀ b : Bool, (false = b) = (b = false)) ∧ (∀ b : Bool, (¬ b = true) = (b = false)) ∧ (∀ b : Bool, (¬ b = false) = (b = true)) :=
  ⟨fun _ _ => decide_eq_true_eq, fun _ _ => decide_eq_false_iff_not, beq_iff_eq, bne_iff_ne, fun _ _ => rfl, beq_eq_false_iff_ne, bne_eq_false_iff_eq, fun a b => by cases a <;> cases b <;> simp, fun a => by cases a <;> rfl, fun a => by cases a <;> simp, fun a => by cases a <;> simp, Int.not_lt, Int.not_le,
    not_and, fun a b => by cases a <;> cases b <;> simp, rfl, rfl, tEq, fEq, fun b => by cases b <;> simp, fun b => by cases b <;> simp⟩

section
variable {P : Program} {n : Nat} {Q : Exit → Env → Own → Prop} {e : Env} {H : Own}
/-- A test that is decided. -/
theorem DW.ct_ {c : Operand} {x y : Code} (h : DW P n x Q e H) (hc : opd e c = .bool true := by first | (simp only [opd_tmp, opd_const, ofConst, ofConst1, get_cons, Nat.reduceEqDiff, ↓reduceIte, if_true, if_false] <;> fail) | fail) : DW P n (.cond c x y) Q e H := DW.ct hc h
theorem DW.cf_ {c : Operand} {x y : Code} (h : DW P n y Q e H) (hc : opd e c = .bool false := by first | (simp only [opd_tmp, opd_const, ofConst, ofConst1, get_cons, Nat.reduceEqDiff, ↓reduceIte, if_true, if_false] <;> fail) | fail) : DW P n (.cond c x y) Q e H := DW.cf hc h
/-- A block counts as it is from here on. -/
theorem DW.frzB (id t : Nat) {b : Nat} {cs : List V} {ops : Array Oper} {d : Bool} (ht : get e t = .raw (.pointer (some ⟨b, 0, none⟩))) (ho : Out H (.blk b cs) fun F => DW P n (.region id ops d) Q (put e t (.sp cs)) F) : DW P n (.region id ops d) Q e H := by
  obtain ⟨F, hp, h⟩ := ho
  intro a w hs hr
  exact wp_mono (DW.freeze t b ht (L1 := []) (L2 := F) rfl h a w (hs.perm hp) (hr.ext (Ext.perm hp))) fun x a1 w1 ⟨hd, e1, H1, s, r, x1, q⟩ => ⟨hd, e1, H1, s, r, (Ext.perm hp).trans x1, q⟩
/-- A loop in its block. -/
theorem DW.loopB (id : Nat) {X : Type} {c : Code} (I : X → Prop) (E : X → Env) (G : X → Own) (m : X → Nat) (x0 : X) (h0 : I x0) (he : Sub (E x0) e)
    (hp : Pull H (G x0) fun F => ∀ x, I x → DW P n c (thenD (fun e' H' => ∃ x', I x' ∧ m x' < m x ∧ Sub (E x') e' ∧ SubP (G x' ++ F) H') (blockD id Q)) (E x) (G x ++ F)) : DW P n (.block id (.loop c)) Q e H :=
  DW.block (DW.loopP I E G m x0 h0 he hp)
end
end Go.Proofs.YtfamfamgopchnaaGreatDoor
namespace Go.Proofs.YtfamfamgopchnaaGreatDoor
open Go.RowKit
set_option linter.unusedSimpArgs false
set_option linter.unusedVariables false
set_option linter.unusedSectionVars false
/-- A hypothesis that no search takes. -/
structure Hid (Q : Prop) : Prop where
  get : Q
/-! What a walk is told of its function: which slots count, which are owned, which operations of a drawn region keep their order. -/
def KsIs (l : List Nat) : Prop := True
def OwnIs (l : List Nat) : Prop := True
def DrIs (id : Nat) (mv tm : List Nat) : Prop := True
def RsIs (l : List ResultVar) : Prop := True
theorem ksIs (l : List Nat) : KsIs l := trivial
theorem ownIs (l : List Nat) : OwnIs l := trivial
theorem drIs (id : Nat) (mv tm : List Nat) : DrIs id mv tm := trivial
theorem rsIs (l : List ResultVar) : RsIs l := trivial
section
variable {P : Program} {n : Nat} {Q : Exit → Env → Own → Prop} {e : Env} {H : Own}
theorem DW.regKw {ks : List Nat} (kw : KsIs ks) {id : Nat} {l : List Oper} (hd : dstB n l = true) (h : SeqD P l.toArray (Q .normal) l (keepL ks e) H) : DW P n (.region id l.toArray false) Q e H := DW.regK ks hd h
theorem SeqD.gow {own : List Nat} (ow : OwnIs own) {ops : Array Oper} {K : Env → Own → Prop} {l : List Oper} (h : FV P own ops (fun l' e' => SeqD P ops K l' e' H) l e) : SeqD P ops K l e H := SeqD.go l e h
theorem SeqD.opFw {own : List Nat} (ow : OwnIs own) {ops : Array Oper} {K : Env → Own → Prop} {o : Oper} {rest : List Oper} (hg : o.guard = none) (h : DOp P o (opd e) H fun d H' => FV P own ops (fun l' e' => SeqD P ops K l' e' H') rest (putO e o.dst d)) : SeqD P ops K (o :: rest) e H := SeqD.opF own hg h
theorem SeqD.opgFw {own : List Nat} (ow : OwnIs own) {ops : Array Oper} {K : Env → Own → Prop} {o : Oper} {rest : List Oper} {j : Nat} {want : Bool} (hg : o.guard = some (j, want)) (hb : gval ops e j = .bool want) (h : DOp P o (opd e) H fun d H' => FV P own ops (fun l' e' => SeqD P ops K l' e' H') rest (putO e o.dst d)) : SeqD P ops K (o :: rest) e H := SeqD.opgF own hg hb h
theorem DW.drawKw {ks mv tm : List Nat} (kw : KsIs ks) {id : Nat} {l : List Oper} (dw : DrIs id mv tm) (hm : P.follows .mixedOrders = true) (hd : dstB n l = true) (hB : drawB l mv tm = true) (h : FD P (mv ++ tm) l.toArray (fun i' l' e' => DV P mv tm l.toArray (Q .normal) i' l' e' H) 0 l (keepL ks e)) : DW P n (.region id l.toArray true) Q e H := DW.drawK ks mv tm hm hd hB (DV.go tm mv l 0 _ h)
theorem ret_cw {l : List ResultVar} (rw_ : RsIs l) {fn : Func} {K : V → Own → Prop} (hl : fn.results.toList = l) (h : RetK P e H K l []) : retQ P fn K .ret e H := ret_c l hl h
end
/-- Rewriting. -/
theorem s_ {P Q : Prop} (q : Q) (h : Hid Q → P := by (intro q; simp (maxSteps := 1000000) (disch := omega) only [push_cast, ↓reduceIte, reduceCtorEq, Nat.reduceAdd, Nat.reduceMul, Nat.reduceLT, Nat.reduceLeDiff, Nat.reduceEqDiff, Nat.reduceSub, Int.reduceToNat, Int.reduceLT, Int.reduceLE, Int.reduceAdd, Int.reduceSub, Int.reduceMul, Int.reduceNeg, Nat.reduceBEq, Int.reduceBEq, Int.reduceBNe, Nat.reduceBNe, Int.reduceEq]; exact q.1)) : P := h ⟨q⟩
/-- What but goes on. -/
theorem g_ {P Q : Prop} (q : Q) (h : Hid Q → P := by (intro q; (with_reducible first | refine DW.sq ?_ | refine DW.block ?_ | refine DW.skip ?_ | refine DW.exit ?_ | refine DW.ret ?_ | refine then_n ?_ | refine then_x ?_ | refine then_r ?_ | refine blk_n ?_ | refine blk_r ?_ | refine blk_x ?_ | refine blk_y (by decide) ?_ | refine Next.go ?_ | refine SeqD.nil ?_ | refine DV.nil ?_ | refine DVJ.nil_ ?_ | refine DW.ct_ ?_ | refine DW.cf_ ?_ | fail); exact q.1)) : P := h ⟨q⟩
/-- What is owned, in order. -/
theorem pl_ {P Q : Prop} (q : Q) (h : Hid Q → P := by (intro q; (with_reducible repeat (first | refine Pull.nil ?_ | refine Pull.cons ?_ | refine Out.here ?_ | refine Out.next ?_ | fail)); exact q.1)) : P := h ⟨q⟩
/-- A side of a branch. -/
theorem i_ {A B Q : Prop} (q : Q) (h : Hid Q → A → B := by (intro q hb; (try simp only [hbs, Int.reduceBEq, Int.reduceBNe, Int.reduceEq] at hb); (try simp (maxSteps := 1000000) (disch := omega) only [push_cast, ↓reduceIte, reduceCtorEq, Nat.reduceAdd, Nat.reduceMul, Nat.reduceLT, Nat.reduceLeDiff, Nat.reduceEqDiff, Nat.reduceSub, Int.reduceToNat, Int.reduceLT, Int.reduceLE, Int.reduceAdd, Int.reduceSub, Int.reduceMul, Int.reduceNeg, Nat.reduceBEq, Int.reduceBEq, Int.reduceBNe, Nat.reduceBNe, Int.reduceEq]); revert hb; exact q.1)) : A → B := h ⟨q⟩
theorem ic_ {A B Q : Prop} (q : Q) (h : Hid Q → A → B := by (intro q hb; (try simp only [hbs, Int.reduceBEq, Int.reduceBNe, Int.reduceEq] at hb); revert hb; exact q.1)) : A → B := h ⟨q⟩
theorem i0_ {A B : Prop} (h : A → False := by (intro hb; first | ((try simp only [hbs, Int.reduceBEq, Int.reduceBNe, Int.reduceEq] at hb); omega) | (simp only [hbs, Int.reduceBEq, Int.reduceBNe, Int.reduceEq] at hb <;> fail) | fail)) : A → B := fun a => (h a).elim
/-- A region. -/
theorem r_ {P Q : Prop} (q : Q) (h : Hid Q → P := by (intro q; ((with_reducible refine DW.regKw kw (by kernel_rfl) ?_); (refine SeqD.gow ow ?_); simp (maxSteps := 1000000) (disch := omega) only [push_cast, ↓reduceIte, reduceCtorEq, Nat.reduceAdd, Nat.reduceMul, Nat.reduceLT, Nat.reduceLeDiff, Nat.reduceEqDiff, Nat.reduceSub, Int.reduceToNat, Int.reduceLT, Int.reduceLE, Int.reduceAdd, Int.reduceSub, Int.reduceMul, Int.reduceNeg, Nat.reduceBEq, Int.reduceBEq, Int.reduceBNe, Nat.reduceBNe, Int.reduceEq]); exact q.1)) : P := h ⟨q⟩
theorem rn_ {P Q : Prop} (q : Q) (h : Hid Q → P := by (intro q; ((with_reducible refine DW.regKw kw (by kernel_rfl) ?_); (refine SeqD.gow ow ?_)); exact q.1)) : P := h ⟨q⟩
theorem dn_ {P Q : Prop} (q : Q) (h : Hid Q → P := by (intro q; (with_reducible refine DW.drawKw kw (by assumption) (by kernel_rfl) (by kernel_rfl) (by kernel_rfl) ?_); exact q.1)) : P := h ⟨q⟩
/-- A region that draws its order. -/
theorem d_ {P Q : Prop} (q : Q) (h : Hid Q → P := by (intro q; ((with_reducible refine DW.drawKw kw (by assumption) (by kernel_rfl) (by kernel_rfl) (by kernel_rfl) ?_); simp (maxSteps := 1000000) (disch := omega) only [push_cast, ↓reduceIte, reduceCtorEq, Nat.reduceAdd, Nat.reduceMul, Nat.reduceLT, Nat.reduceLeDiff, Nat.reduceEqDiff, Nat.reduceSub, Int.reduceToNat, Int.reduceLT, Int.reduceLE, Int.reduceAdd, Int.reduceSub, Int.reduceMul, Int.reduceNeg, Nat.reduceBEq, Int.reduceBEq, Int.reduceBNe, Nat.reduceBNe, Int.reduceEq]); exact q.1)) : P := h ⟨q⟩
/-- A return. -/
theorem k_ {P Q : Prop} (q : Q) (h : Hid Q → P := by (intro q; ((first | (with_reducible refine ret_r rfl ?_) | (with_reducible refine ret_n rfl ?_) | ((refine ret_cw rw_ (by rfl) ?_); (try (refine RetK_cell _ _ _ _ _ _ rfl ?_; (with_reducible repeat (first | refine OnB.here ?_ | refine OnB.mid ?_ | refine OnB.next ?_ | fail))))) | ((refine RetK_cell _ _ _ _ _ _ rfl ?_); (with_reducible repeat (first | refine OnB.here ?_ | refine OnB.mid ?_ | refine OnB.next ?_ | fail))) | fail); simp (maxSteps := 1000000) (disch := omega) only [push_cast, ↓reduceIte, reduceCtorEq, Nat.reduceAdd, Nat.reduceMul, Nat.reduceLT, Nat.reduceLeDiff, Nat.reduceEqDiff, Nat.reduceSub, Int.reduceToNat, Int.reduceLT, Int.reduceLE, Int.reduceAdd, Int.reduceSub, Int.reduceMul, Int.reduceNeg, Nat.reduceBEq, Int.reduceBEq, Int.reduceBNe, Nat.reduceBNe, Int.reduceEq]); exact q.1)) : P := h ⟨q⟩
theorem kn_ {P Q : Prop} (q : Q) (h : Hid Q → P := by (intro q; (first | (with_reducible refine ret_r rfl ?_) | (with_reducible refine ret_n rfl ?_) | ((refine ret_cw rw_ (by rfl) ?_); (try (refine RetK_cell _ _ _ _ _ _ rfl ?_; (with_reducible repeat (first | refine OnB.here ?_ | refine OnB.mid ?_ | refine OnB.next ?_ | fail))))) | ((refine RetK_cell _ _ _ _ _ _ rfl ?_); (with_reducible repeat (first | refine OnB.here ?_ | refine OnB.mid ?_ | refine OnB.next ?_ | fail))) | fail); exact q.1)) : P := h ⟨q⟩
/-- An operation that makes, writes, reads what is owned. -/
theorem o_ {P Q : Prop} (q : Q) (h : Hid Q → P := by (intro q; ((first | (refine DOp.alloc_ rfl ?_) | (refine DOp.box_ rfl ?_) | (refine DOp.list_ rfl ?_) | (refine DOp.store_ rfl rfl ?_; (with_reducible repeat (first | refine OnB.here ?_ | refine OnB.mid ?_ | refine OnB.next ?_ | fail))) | (refine DOp.load_ rfl rfl ?_; (with_reducible repeat (first | refine OnB.here ?_ | refine OnB.mid ?_ | refine OnB.next ?_ | fail))) | (refine DOp.loada_ rfl rfl ?_; (with_reducible repeat (first | refine OnA.here ?_ | refine OnA.next ?_ | fail))) | (refine DOp.storea_ rfl rfl ?_; (with_reducible repeat (first | refine OnA.here ?_ | refine OnA.next ?_ | fail))) | (refine DOp.appa_ rfl rfl rfl ?_; (with_reducible repeat (first | refine OnA.here ?_ | refine OnA.next ?_ | fail))) | (refine DOp.appz_ rfl rfl rfl ?_; (with_reducible repeat (first | refine OnT.here ?_ | refine OnT.next ?_ | fail)); (fail_if_success (with_reducible refine OnT_id ?_))) | (refine DOp.append0_ rfl rfl rfl ?_) | (refine DOp.make0_ rfl rfl rfl ?_) | (refine DOp.make_ rfl rfl rfl ?_) | (refine DOp.mkmap_ rfl ?_) | (refine DOp.convb_ rfl rfl ?_) | (refine DOp.usd0_ rfl rfl ?_) | (refine DOp.ustr0_ rfl rfl rfl ?_) | (refine DOp.convm_ rfl rfl ?_; (with_reducible repeat (first | refine On.here ?_ | refine On.mid ?_ | refine On.next ?_ | fail))) | (refine DOp.convma_ rfl rfl ?_; (with_reducible repeat (first | refine OnA.here ?_ | refine OnA.next ?_ | fail))) | (refine DOp.convsa_ rfl rfl ?_; (with_reducible repeat (first | refine OnA.here ?_ | refine OnA.next ?_ | fail))) | (refine DOp.ranges_ rfl rfl ?_) | (refine DOp.nexts_ rfl rfl ?_; (with_reducible repeat (first | refine OnI.here ?_ | refine OnI.next ?_ | fail))) | fail); simp (maxSteps := 1000000) (disch := omega) only [push_cast, ↓reduceIte, reduceCtorEq, Nat.reduceAdd, Nat.reduceMul, Nat.reduceLT, Nat.reduceLeDiff, Nat.reduceEqDiff, Nat.reduceSub, Int.reduceToNat, Int.reduceLT, Int.reduceLE, Int.reduceAdd, Int.reduceSub, Int.reduceMul, Int.reduceNeg, Nat.reduceBEq, Int.reduceBEq, Int.reduceBNe, Nat.reduceBNe, Int.reduceEq]); exact q.1)) : P := h ⟨q⟩
/-- The same, not rewritten. -/
theorem on_ {P Q : Prop} (q : Q) (h : Hid Q → P := by (intro q; (first | (refine DOp.alloc_ rfl ?_) | (refine DOp.box_ rfl ?_) | (refine DOp.list_ rfl ?_) | (refine DOp.store_ rfl rfl ?_; (with_reducible repeat (first | refine OnB.here ?_ | refine OnB.mid ?_ | refine OnB.next ?_ | fail))) | (refine DOp.load_ rfl rfl ?_; (with_reducible repeat (first | refine OnB.here ?_ | refine OnB.mid ?_ | refine OnB.next ?_ | fail))) | (refine DOp.loada_ rfl rfl ?_; (with_reducible repeat (first | refine OnA.here ?_ | refine OnA.next ?_ | fail))) | (refine DOp.storea_ rfl rfl ?_; (with_reducible repeat (first | refine OnA.here ?_ | refine OnA.next ?_ | fail))) | (refine DOp.appa_ rfl rfl rfl ?_; (with_reducible repeat (first | refine OnA.here ?_ | refine OnA.next ?_ | fail))) | (refine DOp.appz_ rfl rfl rfl ?_; (with_reducible repeat (first | refine OnT.here ?_ | refine OnT.next ?_ | fail)); (fail_if_success (with_reducible refine OnT_id ?_))) | (refine DOp.append0_ rfl rfl rfl ?_) | (refine DOp.make0_ rfl rfl rfl ?_) | (refine DOp.make_ rfl rfl rfl ?_) | (refine DOp.mkmap_ rfl ?_) | (refine DOp.convb_ rfl rfl ?_) | (refine DOp.usd0_ rfl rfl ?_) | (refine DOp.ustr0_ rfl rfl rfl ?_) | (refine DOp.convm_ rfl rfl ?_; (with_reducible repeat (first | refine On.here ?_ | refine On.mid ?_ | refine On.next ?_ | fail))) | (refine DOp.convma_ rfl rfl ?_; (with_reducible repeat (first | refine OnA.here ?_ | refine OnA.next ?_ | fail))) | (refine DOp.convsa_ rfl rfl ?_; (with_reducible repeat (first | refine OnA.here ?_ | refine OnA.next ?_ | fail))) | (refine DOp.ranges_ rfl rfl ?_) | (refine DOp.nexts_ rfl rfl ?_; (with_reducible repeat (first | refine OnI.here ?_ | refine OnI.next ?_ | fail))) | fail); exact q.1)) : P := h ⟨q⟩
theorem f_ {P Q : Prop} (q : Q) (h : Hid Q → P := by (intro q; (with_reducible first | refine SeqD.opFw ow rfl ?_ | refine SeqD.opgFw ow rfl rfl ?_ | fail); exact q.1)) : P := h ⟨q⟩
theorem vo_ {P Q : Prop} (q : Q) (h : Hid Q → P := by (intro q; ((with_reducible first | refine DV.mk rfl ?_ | refine DV.mkg rfl rfl ?_ | fail); (first | (refine DVop.usd0_ rfl rfl rfl rfl ?_) | (refine DVop.loada_ rfl rfl rfl rfl ?_; (with_reducible repeat (first | refine OnA.here ?_ | refine OnA.next ?_ | fail))) | (refine DVop.load_ rfl rfl rfl rfl ?_; (with_reducible repeat (first | refine OnB.here ?_ | refine OnB.mid ?_ | refine OnB.next ?_ | fail))) | (refine DVop.f_ rfl ?_) | fail); simp (maxSteps := 1000000) (disch := omega) only [push_cast, ↓reduceIte, reduceCtorEq, Nat.reduceAdd, Nat.reduceMul, Nat.reduceLT, Nat.reduceLeDiff, Nat.reduceEqDiff, Nat.reduceSub, Int.reduceToNat, Int.reduceLT, Int.reduceLE, Int.reduceAdd, Int.reduceSub, Int.reduceMul, Int.reduceNeg, Nat.reduceBEq, Int.reduceBEq, Int.reduceBNe, Nat.reduceBNe, Int.reduceEq]); exact q.1)) : P := h ⟨q⟩
theorem von_ {P Q : Prop} (q : Q) (h : Hid Q → P := by (intro q; ((with_reducible first | refine DV.mk rfl ?_ | refine DV.mkg rfl rfl ?_ | fail); (first | (refine DVop.usd0_ rfl rfl rfl rfl ?_) | (refine DVop.loada_ rfl rfl rfl rfl ?_; (with_reducible repeat (first | refine OnA.here ?_ | refine OnA.next ?_ | fail))) | (refine DVop.load_ rfl rfl rfl rfl ?_; (with_reducible repeat (first | refine OnB.here ?_ | refine OnB.mid ?_ | refine OnB.next ?_ | fail))) | (refine DVop.f_ rfl ?_) | fail)); exact q.1)) : P := h ⟨q⟩
theorem vm_ {P Q : Prop} (q : Q) (h : Hid Q → P := by (intro q; ((with_reducible first | refine DV.mk rfl ?_ | refine DV.mkg rfl rfl ?_ | fail); (refine DVop.mv_ rfl ?_)); exact q.1)) : P := h ⟨q⟩
theorem dm_ {P Q : Prop} (q : Q) (h : Hid Q → P := by (intro q; (with_reducible first | refine DV.mk rfl ?_ | refine DV.mkg rfl rfl ?_ | fail); exact q.1)) : P := h ⟨q⟩
section
variable {P : Program} {o : Oper} {f : Operand → V} {H : Own} {K : V → Own → Prop}
/-- A call that but looks, and whose result is told. -/
theorem q_ {Q : Prop} {c : Operand} {args : Array Operand} {ts : Array TypeId} {k : FuncId} {first caps args' : List V} {es F : Own} {A : Prop} {d : V} (h : A → DC P k args' (es ++ F) fun d' G => d' = d ∧ G = es ++ F) (q : Q)
    (hop : o.op = .call { callee := .value c, args, argTypes := ts } := by rfl) (hc : f c = .fn (.func k) first caps := by rfl) (hl : Les (first ++ args.toList.map f ++ caps) args' := by ((repeat (first | exact Les.nil | refine Les.cons le.rfl_ ?_ | refine Les.cons (le.gs rfl) ?_ | refine Les.cons (le.gs List.map_nil.symm) ?_ | refine Les.cons (le.agg ?_) ?_ | fail)) <;> fail)) (hq : Pulled H es F := by ((with_reducible repeat (first | exact Pulled.nil | apply Pulled.cons | exact Took.here | apply Took.next | fail)) <;> fail)) (ha : A := by exact sv)
    (hk : Hid Q → K d H := by (intro q; simp (maxSteps := 1000000) (disch := omega) only [push_cast, ↓reduceIte, reduceCtorEq, Nat.reduceAdd, Nat.reduceMul, Nat.reduceLT, Nat.reduceLeDiff, Nat.reduceEqDiff, Nat.reduceSub, Int.reduceToNat, Int.reduceLT, Int.reduceLE, Int.reduceAdd, Int.reduceSub, Int.reduceMul, Int.reduceNeg, Nat.reduceBEq, Int.reduceBEq, Int.reduceBNe, Nat.reduceBNe, Int.reduceEq]; exact q.1)) : DOp P o f H K := DOp.callq_ (K' := fun x => x = d) hop hc hl hq h ⟨ha, fun d' e => e ▸ hk ⟨q⟩⟩
/-- A call that but looks. -/
theorem qq_ {c : Operand} {args : Array Operand} {ts : Array TypeId} {k : FuncId} {first caps args' : List V} {es F : Own} {A : Prop} {K' : V → Prop} (h : A → DC P k args' (es ++ F) fun d G => K' d ∧ G = es ++ F) (hk : ∀ d, K' d → K d H)
    (hop : o.op = .call { callee := .value c, args, argTypes := ts } := by rfl) (hc : f c = .fn (.func k) first caps := by rfl) (hl : Les (first ++ args.toList.map f ++ caps) args' := by ((repeat (first | exact Les.nil | refine Les.cons le.rfl_ ?_ | refine Les.cons (le.gs rfl) ?_ | refine Les.cons (le.gs List.map_nil.symm) ?_ | refine Les.cons (le.agg ?_) ?_ | fail)) <;> fail)) (hq : Pulled H es F := by ((with_reducible repeat (first | exact Pulled.nil | apply Pulled.cons | exact Took.here | apply Took.next | fail)) <;> fail)) (ha : A := by exact sv) : DOp P o f H K := DOp.callq_ hop hc hl hq h ⟨ha, hk⟩
/-- A call that writes. -/
theorem p_ {c : Operand} {args : Array Operand} {ts : Array TypeId} {k : FuncId} {first caps args' : List V} {es : Own} {F : Own} {A : Prop} {K' : V → Own → Prop} (h : A → DC P k args' (es ++ F) K') (hk : ∀ d H1, K' d H1 → K d H1)
    (hop : o.op = .call { callee := .value c, args, argTypes := ts } := by rfl) (hc : f c = .fn (.func k) first caps := by rfl) (hl : Les (first ++ args.toList.map f ++ caps) args' := by ((repeat (first | exact Les.nil | refine Les.cons le.rfl_ ?_ | refine Les.cons (le.gs rfl) ?_ | refine Les.cons (le.gs List.map_nil.symm) ?_ | refine Les.cons (le.agg ?_) ?_ | fail)) <;> fail)) (hq : Pulled H es F := by ((with_reducible repeat (first | exact Pulled.nil | apply Pulled.cons | exact Took.here | apply Took.next | fail)) <;> fail)) (ha : A := by exact sv) : DOp P o f H K := DOp.callp_ hop hc hl hq h ⟨ha, hk⟩
/-- A call of a drawn region. -/
theorem v_ {Q : Prop} {e : Env} {mv tm : List Nat} {ops : Array Oper} {K : Env → Own → Prop} {i : Nat} {rest : List Oper} {c : Operand} {args : Array Operand} {ts : Array TypeId} {k : FuncId} {first caps args' : List V} {es F : Own} {A : Prop} {d : V}
    (h1 : A → DC P k args' (es ++ F) fun d' G => d' = d ∧ G = es ++ F) (q : Q) (hm : mv.contains i = false := by rfl) (ht : tm.contains i = true := by rfl) (hop : o.op = .call { callee := .value c, args, argTypes := ts } := by rfl) (hc : opd e c = .fn (.func k) first caps := by rfl)
    (hl : Les (first ++ args.toList.map (opd e) ++ caps) args' := by ((repeat (first | exact Les.nil | refine Les.cons le.rfl_ ?_ | refine Les.cons (le.gs rfl) ?_ | refine Les.cons (le.gs List.map_nil.symm) ?_ | refine Les.cons (le.agg ?_) ?_ | fail)) <;> fail)) (hq : Pulled H es F := by ((with_reducible repeat (first | exact Pulled.nil | apply Pulled.cons | exact Took.here | apply Took.next | fail)) <;> fail)) (ha : A := by exact sv)
    (hk : Hid Q → FD P (mv ++ tm) ops (fun i' l' e' => DV P mv tm ops K i' l' e' H) (i + 1) rest (putO e o.dst d) := by (intro q; simp (maxSteps := 1000000) (disch := omega) only [push_cast, ↓reduceIte, reduceCtorEq, Nat.reduceAdd, Nat.reduceMul, Nat.reduceLT, Nat.reduceLeDiff, Nat.reduceEqDiff, Nat.reduceSub, Int.reduceToNat, Int.reduceLT, Int.reduceLE, Int.reduceAdd, Int.reduceSub, Int.reduceMul, Int.reduceNeg, Nat.reduceBEq, Int.reduceBEq, Int.reduceBNe, Nat.reduceBNe, Int.reduceEq]; exact q.1)) : DVop P mv tm ops K i o rest e H := DVop.callq_ hm ht hop hc hl hq h1 ⟨ha, hk ⟨q⟩⟩
end
/-- An end of a function: what it gives is told. -/
theorem fin_ {P : Prop} (h : P := by ((refine ⟨_, _, ?_, ⟨rfl, rfl⟩, ?_⟩); (first | exact le.rfl_ | exact le.gs rfl | (refine le.of_eq ?_; rfl) | (refine le.gs ?_; rfl) | fail); ((with_reducible repeat (first | exact SubP.refl | exact SubP.nil | refine SubP.pick ?_ | refine Out.here ?_ | refine Out.next ?_ | refine SubP.drop ?_ | fail)) <;> fail))) : P := h
theorem finq_ {P Q : Prop} (q : Q) (h : Hid Q → P := by (intro q; (refine ⟨_, _, ?_, ⟨rfl, rfl⟩, ?_⟩); (first | (refine le.of_eq ?_; exact q.1) | (refine le.gs ?_; exact q.1) | fail); ((with_reducible repeat (first | exact SubP.refl | exact SubP.nil | refine SubP.pick ?_ | refine Out.here ?_ | refine Out.next ?_ | refine SubP.drop ?_ | fail)) <;> fail))) : P := h ⟨q⟩
theorem sub_ {P : Prop} (h : P := by ((with_reducible repeat (first | exact SubP.refl | exact SubP.nil | refine SubP.pick ?_ | refine Out.here ?_ | refine Out.next ?_ | refine SubP.drop ?_ | fail)) <;> fail)) : P := h
end Go.Proofs.YtfamfamgopchnaaGreatDoor
/- Loops as plain functions: all, the first, those that, folds; tables as data. No statement of the program. -/
namespace Go.Proofs.YtfamfamgopchnaaGreatDoor
open Go.RowKit
set_option linter.unusedSimpArgs false
set_option linter.unusedVariables false
set_option linter.unusedSectionVars false

/-- All of the first k. -/
def allK (p : Nat → Bool) (k : Nat) : Bool := (List.range k).all p
theorem allK_0 (p : Nat → Bool) : allK p 0 = true := rfl
theorem allK_more (p : Nat → Bool) (k : Nat) : allK p (k + 1) = (allK p k && p k) := by simp [allK, List.range_succ]
theorem allK_next {p : Nat → Bool} {k : Nat} (h : allK p k = true) (hk : p k = true) : allK p (k + 1) = true := by rw [allK_more, h, hk]; rfl
theorem allK_not {p : Nat → Bool} {k n : Nat} (hk : p k = false) (h : k < n) : allK p n = false := by
  cases ha : allK p n with
  | false => rfl
  | true =>
    have := List.all_eq_true.1 ha k (List.mem_range.2 h)
    rw [hk] at this; cases this
theorem allK_iff {p : Nat → Bool} {n : Nat} : allK p n = true ↔ ∀ k, k < n → p k = true := by
  simp [allK, List.all_eq_true]
/-- Any of the first k. -/
def anyK (p : Nat → Bool) (k : Nat) : Bool := (List.range k).any p
theorem anyK_0 (p : Nat → Bool) : anyK p 0 = false := rfl
theorem anyK_more (p : Nat → Bool) (k : Nat) : anyK p (k + 1) = (anyK p k || p k) := by simp [anyK, List.range_succ]
theorem anyK_next {p : Nat → Bool} {k : Nat} (h : anyK p k = false) (hk : p k = false) : anyK p (k + 1) = false := by rw [anyK_more, h, hk]; rfl
theorem anyK_at {p : Nat → Bool} {k n : Nat} (hk : p k = true) (h : k < n) : anyK p n = true := List.any_eq_true.2 ⟨k, List.mem_range.2 h, hk⟩
/-- The first of n that .., else n. -/
def firstK (p : Nat → Bool) : Nat → Nat → Nat
  | 0, k => k
  | n + 1, k => if p k = true then k else firstK p n (k + 1)
theorem firstK_at (p : Nat → Bool) : ∀ (n k j : Nat), k ≤ j → j < k + n → (∀ i, k ≤ i → i < j → p i = false) → p j = true → firstK p n k = j
  | 0, k, j, h1, h2, _, _ => by omega
  | n + 1, k, j, h1, h2, h3, h4 => by
    unfold firstK
    by_cases hk : k = j
    · subst hk; rw [if_pos h4]
    · rw [if_neg (by rw [h3 k (Nat.le_refl _) (by omega)]; exact Bool.false_ne_true)]
      exact firstK_at p n (k + 1) j (by omega) (by omega) (fun i hi hj => h3 i (by omega) hj) h4
theorem firstK_no (p : Nat → Bool) : ∀ (n k : Nat), (∀ i, k ≤ i → i < k + n → p i = false) → firstK p n k = k + n
  | 0, k, _ => rfl
  | n + 1, k, h => by
    unfold firstK
    rw [if_neg (by rw [h k (Nat.le_refl _) (by omega)]; exact Bool.false_ne_true), firstK_no p n (k + 1) (fun i hi hj => h i (by omega) (by omega))]
    omega
theorem firstK_le (p : Nat → Bool) : ∀ (n k : Nat), firstK p n k ≤ k + n ∧ k ≤ firstK p n k ∧ (∀ i, k ≤ i → i < firstK p n k → p i = false) ∧ (firstK p n k < k + n → p (firstK p n k) = true)
  | 0, k => ⟨Nat.le_refl _, Nat.le_refl _, fun i h1 h2 => by simp only [firstK] at h2; omega, fun h => by simp only [firstK] at h; omega⟩
  | n + 1, k => by
    unfold firstK
    by_cases hp : p k = true
    · rw [if_pos hp]; exact ⟨by omega, Nat.le_refl _, fun i h1 h2 => by omega, fun _ => hp⟩
    · rw [if_neg hp]
      obtain ⟨h1, h2, h3, h4⟩ := firstK_le p n (k + 1)
      refine ⟨by omega, by omega, fun i hi hj => ?_, fun h => h4 (by omega)⟩
      by_cases hk : i = k
      · subst hk; simpa using hp
      · exact h3 i (by omega) hj
section
variable {α : Type} [Inhabited α]
theorem take_more (l : List α) (k : Nat) (h : k < l.length) : l.take (k + 1) = l.take k ++ [l.getD k default] := by
  rw [List.take_add_one]; simp [List.getD_eq_getElem?_getD, h]
theorem drop_more (l : List α) (k : Nat) (h : k < l.length) : l.drop k = l.getD k default :: l.drop (k + 1) := by
  rw [List.drop_eq_getElem_cons h]; simp [List.getD_eq_getElem?_getD, h]
theorem filter_yes {p : α → Bool} {l : List α} {k : Nat} (h : k < l.length) (hp : p (l.getD k default) = true) : (l.take (k + 1)).filter p = (l.take k).filter p ++ [l.getD k default] := by
  rw [take_more l k h, List.filter_append, List.filter_cons_of_pos hp, List.filter_nil]
theorem filter_no {p : α → Bool} {l : List α} {k : Nat} (h : k < l.length) (hp : p (l.getD k default) = false) : (l.take (k + 1)).filter p = (l.take k).filter p := by
  rw [take_more l k h, List.filter_append, List.filter_cons_of_neg (by rw [hp]; exact Bool.false_ne_true), List.filter_nil, List.append_nil]
theorem filter_len {p : α → Bool} (l : List α) (k : Nat) : ((l.take k).filter p).length ≤ k := Nat.le_trans (List.length_filter_le _ _) (by rw [List.length_take]; omega)
theorem foldl_more {β : Type} (f : β → α → β) (b : β) {l : List α} {k : Nat} (h : k < l.length) : (l.take (k + 1)).foldl f b = f ((l.take k).foldl f b) (l.getD k default) := by
  rw [take_more l k h, List.foldl_append]; rfl
end
abbrev Str := List UInt8
structure TDot where
  node : Int
  epoch : Int
  n : Int
  deriving DecidableEq, Inhabited
structure TFence where
  node : Int
  epoch : Int
  deriving DecidableEq, Inhabited
structure TRoute where
  dot : TDot
  filter : Str
  deriving DecidableEq, Inhabited
structure TStamp where
  l : Int
  c : Int
  node : Int
  deriving DecidableEq, Inhabited
structure TCell where
  dot : TDot
  stamp : TStamp
  topic : Str
  payload : Str
  qos : Int
  gone : Bool
  deriving DecidableEq, Inhabited
structure TTable where
  seen : List TDot
  fences : List TFence
  routes : List TRoute
  cells : List TCell
  deriving DecidableEq, Inhabited
def encDot (d : TDot) : V := .agg [.int .i64 d.node, .int .i64 d.epoch, .int .i64 d.n]
def encFence (f : TFence) : V := .agg [.int .i64 f.node, .int .i64 f.epoch]
def encRoute (r : TRoute) : V := .agg [.int .i64 r.dot.node, .int .i64 r.dot.epoch, .int .i64 r.dot.n, .str r.filter]
def encCell (c : TCell) : V := .agg [.int .i64 c.dot.node, .int .i64 c.dot.epoch, .int .i64 c.dot.n, .int .i64 c.stamp.l, .int .i64 c.stamp.c, .int .i64 c.stamp.node, .str c.topic, .sl (c.payload.map u8), .int .i64 c.qos, .bool c.gone]
def encTable (t : TTable) : V := .agg [.sl (t.seen.map encDot), .sl (t.fences.map encFence), .sl (t.routes.map encRoute), .sl (t.cells.map encCell)]
/-! Dots (layer 9). -/
def pairB (node epoch : Int) : Bool := decide (0 ≤ node) && decide (node < 16) && decide (1 ≤ epoch)
def before (a b : TDot) : Bool := if a.node ≠ b.node then decide (a.node < b.node) else if a.epoch ≠ b.epoch then decide (a.epoch < b.epoch) else decide (a.n < b.n)
def ahead (a b : TDot) : Bool := decide (a.node < b.node) || (a.node == b.node && decide (a.epoch < b.epoch))
def dotOk (l : List TDot) (i : Nat) : Bool := pairB (l.getD i default).node (l.getD i default).epoch && decide (1 ≤ (l.getD i default).n) && (decide (i = 0) || ahead (l.getD (i - 1) default) (l.getD i default))
def rightB (l : List TDot) : Bool := allK (dotOk l) l.length
def isAt (l : List TDot) (node epoch : Int) (i : Nat) : Bool := (l.getD i default).node == node && (l.getD i default).epoch == epoch
def topM (l : List TDot) (node epoch : Int) : Int := if rightB l = true ∧ firstK (isAt l node epoch) l.length 0 < l.length then (l.getD (firstK (isAt l node epoch) l.length 0) default).n else 0
def hasB (l : List TDot) (d : TDot) : Bool := decide (1 ≤ d.n) && decide (d.n ≤ topM l d.node d.epoch)
def oneB (d : TDot) : Bool := pairB d.node d.epoch && decide (1 ≤ d.n)
def placeD (l : List TDot) (d : TDot) : Nat := firstK (fun i => !ahead (l.getD i default) d) l.length 0
def putD (l : List TDot) (d : TDot) : List TDot :=
  if placeD l d < l.length ∧ ahead d (l.getD (placeD l d) default) = false then l.set (placeD l d) { l.getD (placeD l d) default with n := d.n }
  else l.take (placeD l d) ++ (d :: l.drop (placeD l d))
def addM (l : List TDot) (d : TDot) : List TDot := if rightB l = true then (if oneB d = true ∧ hasB l d = false then putD l d else l) else []
def joinM (a b : List TDot) : List TDot := if rightB a = true ∧ rightB b = true then b.foldl addM a else []
end Go.Proofs.YtfamfamgopchnaaGreatDoor
