/- The types of the program, as the walk reads them. -/
import Derived.Test.YtnnigbnlhhikjaaDoorEp
import Derived.KernelRfl
namespace Go.Proofs.YtnnigbnlhhikjaaDoor
open Go.RowKit
set_option linter.unusedSimpArgs false
set_option linter.unusedVariables false
set_option linter.unusedSectionVars false
set_option maxHeartbeats 4000000
set_option maxRecDepth 100000

theorem ty_0 : ty Tryd.prog 0 = { kind := 11 } := by kernel_rfl
theorem ty_1 : ty Tryd.prog 1 = { kind := 9, size := 1, bytes := 8, zero := [V.raw Value.nilFunc] } := by kernel_rfl
theorem ty_2 : ty Tryd.prog 2 = { kind := 2, size := 1, bytes := 8, ik := some IntKind.i64, zero := [V.int IntKind.i64 0] } := by kernel_rfl
theorem ty_3 : ty Tryd.prog 3 = { kind := 2, size := 1, bytes := 8, ik := some IntKind.i64, zero := [V.int IntKind.i64 0] } := by kernel_rfl
theorem ty_4 : ty Tryd.prog 4 = { kind := 1, size := 1, bytes := 1, zero := [V.bool false] } := by kernel_rfl
theorem ty_5 : ty Tryd.prog 5 = { kind := 2, size := 1, bytes := 1, ik := some IntKind.u8, zero := [V.int IntKind.u8 0] } := by kernel_rfl
theorem ty_6 : ty Tryd.prog 6 = { kind := 2, size := 1, bytes := 1, ik := some IntKind.u8, zero := [V.int IntKind.u8 0] } := by kernel_rfl
theorem ty_7 : ty Tryd.prog 7 = { kind := 6, size := 4, bytes := 24, agg := true, offs := [(0, 2), (1, 3), (2, 4), (3, 6)], zero := [V.int IntKind.i64 0, V.int IntKind.i64 0, V.bool false, V.int IntKind.u8 0] } := by kernel_rfl
theorem ty_8 : ty Tryd.prog 8 = { kind := 6, size := 4, bytes := 24, agg := true, offs := [(0, 2), (1, 3), (2, 4), (3, 6)], zero := [V.int IntKind.i64 0, V.int IntKind.i64 0, V.bool false, V.int IntKind.u8 0] } := by kernel_rfl
theorem ty_9 : ty Tryd.prog 9 = { kind := 3, size := 1, bytes := 16, zero := [V.str []] } := by kernel_rfl
theorem ty_10 : ty Tryd.prog 10 = { kind := 3, size := 1, bytes := 16, zero := [V.str []] } := by kernel_rfl
theorem ty_11 : ty Tryd.prog 11 = { kind := 3, size := 1, bytes := 16, zero := [V.str []] } := by kernel_rfl
theorem ty_12 : ty Tryd.prog 12 = { kind := 2, size := 1, bytes := 8, ik := some IntKind.u64, zero := [V.int IntKind.u64 0] } := by kernel_rfl
theorem ty_13 : ty Tryd.prog 13 = { kind := 6, size := 2, bytes := 24, agg := true, offs := [(0, 9), (1, 12)], zero := [V.str [], V.int IntKind.u64 0] } := by kernel_rfl
theorem ty_14 : ty Tryd.prog 14 = { kind := 6, size := 2, bytes := 24, agg := true, offs := [(0, 9), (1, 12)], zero := [V.str [], V.int IntKind.u64 0] } := by kernel_rfl
theorem ty_15 : ty Tryd.prog 15 = { kind := 7, size := 1, bytes := 8, elem := 175, zero := [V.raw (Value.pointer none)] } := by kernel_rfl
theorem ty_16 : ty Tryd.prog 16 = { kind := 7, size := 1, bytes := 8, elem := 178, zero := [V.raw (Value.pointer none)] } := by kernel_rfl
theorem ty_17 : ty Tryd.prog 17 = { kind := 7, size := 1, bytes := 8, elem := 185, zero := [V.raw (Value.pointer none)] } := by kernel_rfl
theorem ty_18 : ty Tryd.prog 18 = { kind := 6, size := 1, bytes := 8, agg := true, offs := [(0, 17)], zero := [V.raw (Value.pointer none)] } := by kernel_rfl
theorem ty_19 : ty Tryd.prog 19 = { kind := 6, size := 1, bytes := 8, agg := true, offs := [(0, 17)], zero := [V.raw (Value.pointer none)] } := by kernel_rfl
theorem ty_20 : ty Tryd.prog 20 = { kind := 10, size := 1, bytes := 16, zero := [V.raw Value.nilIface] } := by kernel_rfl
theorem ty_21 : ty Tryd.prog 21 = { kind := 2, size := 1, bytes := 4, ik := some IntKind.i32, zero := [V.int IntKind.i32 0] } := by kernel_rfl
theorem ty_22 : ty Tryd.prog 22 = { kind := 9, size := 1, bytes := 8, zero := [V.raw Value.nilFunc] } := by kernel_rfl
theorem ty_23 : ty Tryd.prog 23 = { kind := 4, size := 1, bytes := 24, elem := 5, zero := [V.gs (Value.slice none 0 0) []] } := by kernel_rfl
theorem ty_24 : ty Tryd.prog 24 = { kind := 6, size := 4, bytes := 56, agg := true, offs := [(0, 9), (1, 23), (2, 3), (3, 4)], zero := [V.str [], V.gs (Value.slice none 0 0) [], V.int IntKind.i64 0, V.bool false] } := by kernel_rfl
theorem ty_25 : ty Tryd.prog 25 = { kind := 6, size := 4, bytes := 56, agg := true, offs := [(0, 9), (1, 23), (2, 3), (3, 4)], zero := [V.str [], V.gs (Value.slice none 0 0) [], V.int IntKind.i64 0, V.bool false] } := by kernel_rfl
theorem ty_26 : ty Tryd.prog 26 = { kind := 4, size := 1, bytes := 24, elem := 43, zero := [V.gs (Value.slice none 0 0) []] } := by kernel_rfl
theorem ty_27 : ty Tryd.prog 27 = { kind := 4, size := 1, bytes := 24, elem := 71, zero := [V.gs (Value.slice none 0 0) []] } := by kernel_rfl
theorem ty_28 : ty Tryd.prog 28 = { kind := 4, size := 1, bytes := 24, elem := 73, zero := [V.gs (Value.slice none 0 0) []] } := by kernel_rfl
theorem ty_29 : ty Tryd.prog 29 = { kind := 4, size := 1, bytes := 24, elem := 75, zero := [V.gs (Value.slice none 0 0) []] } := by kernel_rfl
theorem ty_30 : ty Tryd.prog 30 = { kind := 4, size := 1, bytes := 24, elem := 79, zero := [V.gs (Value.slice none 0 0) []] } := by kernel_rfl
theorem ty_31 : ty Tryd.prog 31 = { kind := 6, size := 4, bytes := 96, agg := true, offs := [(0, 27), (1, 28), (2, 29), (3, 30)], zero := [V.gs (Value.slice none 0 0) [], V.gs (Value.slice none 0 0) [], V.gs (Value.slice none 0 0) [], V.gs (Value.slice none 0 0) []] } := by kernel_rfl
theorem ty_32 : ty Tryd.prog 32 = { kind := 6, size := 4, bytes := 96, agg := true, offs := [(0, 27), (1, 28), (2, 29), (3, 30)], zero := [V.gs (Value.slice none 0 0) [], V.gs (Value.slice none 0 0) [], V.gs (Value.slice none 0 0) [], V.gs (Value.slice none 0 0) []] } := by kernel_rfl
theorem ty_33 : ty Tryd.prog 33 = { kind := 6, size := 15, bytes := 240, agg := true, offs := [(0, 3), (1, 3), (2, 3), (3, 3), (4, 26), (5, 27), (6, 32), (10, 3), (11, 25)], zero := [V.int IntKind.i64 0, V.int IntKind.i64 0, V.int IntKind.i64 0, V.int IntKind.i64 0, V.gs (Value.slice none 0 0) [], V.gs (Value.slice none 0 0) [], V.gs (Value.slice none 0 0) [], V.gs (Value.slice none 0 0) [], V.gs (Value.slice none 0 0) [], V.gs (Value.slice none 0 0) [], V.int IntKind.i64 0, V.str [], V.gs (Value.slice none 0 0) [], V.int IntKind.i64 0, V.bool false] } := by kernel_rfl
theorem ty_34 : ty Tryd.prog 34 = { kind := 6, size := 15, bytes := 240, agg := true, offs := [(0, 3), (1, 3), (2, 3), (3, 3), (4, 26), (5, 27), (6, 32), (10, 3), (11, 25)], zero := [V.int IntKind.i64 0, V.int IntKind.i64 0, V.int IntKind.i64 0, V.int IntKind.i64 0, V.gs (Value.slice none 0 0) [], V.gs (Value.slice none 0 0) [], V.gs (Value.slice none 0 0) [], V.gs (Value.slice none 0 0) [], V.gs (Value.slice none 0 0) [], V.gs (Value.slice none 0 0) [], V.int IntKind.i64 0, V.str [], V.gs (Value.slice none 0 0) [], V.int IntKind.i64 0, V.bool false] } := by kernel_rfl
theorem ty_35 : ty Tryd.prog 35 = { kind := 2, size := 1, bytes := 8, ik := some IntKind.i64, zero := [V.int IntKind.i64 0] } := by kernel_rfl
theorem ty_36 : ty Tryd.prog 36 = { kind := 11 } := by kernel_rfl
theorem ty_37 : ty Tryd.prog 37 = { kind := 9, size := 1, bytes := 8, zero := [V.raw Value.nilFunc] } := by kernel_rfl
theorem ty_38 : ty Tryd.prog 38 = { kind := 11 } := by kernel_rfl
theorem ty_39 : ty Tryd.prog 39 = { kind := 9, size := 1, bytes := 8, zero := [V.raw Value.nilFunc] } := by kernel_rfl
theorem ty_40 : ty Tryd.prog 40 = { kind := 9, size := 1, bytes := 8, zero := [V.raw Value.nilFunc] } := by kernel_rfl
theorem ty_41 : ty Tryd.prog 41 = { kind := 9, size := 1, bytes := 8, zero := [V.raw Value.nilFunc] } := by kernel_rfl
theorem ty_42 : ty Tryd.prog 42 = { kind := 9, size := 1, bytes := 8, zero := [V.raw Value.nilFunc] } := by kernel_rfl
theorem ty_43 : ty Tryd.prog 43 = { kind := 2, size := 1, bytes := 8, ik := some IntKind.u64, zero := [V.int IntKind.u64 0] } := by kernel_rfl
theorem ty_44 : ty Tryd.prog 44 = { kind := 9, size := 1, bytes := 8, zero := [V.raw Value.nilFunc] } := by kernel_rfl
theorem ty_45 : ty Tryd.prog 45 = { kind := 9, size := 1, bytes := 8, zero := [V.raw Value.nilFunc] } := by kernel_rfl
theorem ty_46 : ty Tryd.prog 46 = { kind := 9, size := 1, bytes := 8, zero := [V.raw Value.nilFunc] } := by kernel_rfl
theorem ty_47 : ty Tryd.prog 47 = { kind := 9, size := 1, bytes := 8, zero := [V.raw Value.nilFunc] } := by kernel_rfl
theorem ty_48 : ty Tryd.prog 48 = { kind := 9, size := 1, bytes := 8, zero := [V.raw Value.nilFunc] } := by kernel_rfl
theorem ty_49 : ty Tryd.prog 49 = { kind := 9, size := 1, bytes := 8, zero := [V.raw Value.nilFunc] } := by kernel_rfl
theorem ty_50 : ty Tryd.prog 50 = { kind := 9, size := 1, bytes := 8, zero := [V.raw Value.nilFunc] } := by kernel_rfl
theorem ty_51 : ty Tryd.prog 51 = { kind := 9, size := 1, bytes := 8, zero := [V.raw Value.nilFunc] } := by kernel_rfl
theorem ty_52 : ty Tryd.prog 52 = { kind := 7, size := 1, bytes := 8, elem := 54, zero := [V.raw (Value.pointer none)] } := by kernel_rfl
theorem ty_53 : ty Tryd.prog 53 = { kind := 6, size := 2, bytes := 32, agg := true, offs := [(0, 23), (1, 4)], zero := [V.gs (Value.slice none 0 0) [], V.bool false] } := by kernel_rfl
theorem ty_54 : ty Tryd.prog 54 = { kind := 6, size := 2, bytes := 32, agg := true, offs := [(0, 23), (1, 4)], zero := [V.gs (Value.slice none 0 0) [], V.bool false] } := by kernel_rfl
theorem ty_55 : ty Tryd.prog 55 = { kind := 9, size := 1, bytes := 8, zero := [V.raw Value.nilFunc] } := by kernel_rfl
theorem ty_56 : ty Tryd.prog 56 = { kind := 9, size := 1, bytes := 8, zero := [V.raw Value.nilFunc] } := by kernel_rfl
theorem ty_57 : ty Tryd.prog 57 = { kind := 9, size := 1, bytes := 8, zero := [V.raw Value.nilFunc] } := by kernel_rfl
theorem ty_58 : ty Tryd.prog 58 = { kind := 9, size := 1, bytes := 8, zero := [V.raw Value.nilFunc] } := by kernel_rfl
theorem ty_59 : ty Tryd.prog 59 = { kind := 9, size := 1, bytes := 8, zero := [V.raw Value.nilFunc] } := by kernel_rfl
theorem ty_60 : ty Tryd.prog 60 = { kind := 9, size := 1, bytes := 8, zero := [V.raw Value.nilFunc] } := by kernel_rfl
theorem ty_61 : ty Tryd.prog 61 = { kind := 9, size := 1, bytes := 8, zero := [V.raw Value.nilFunc] } := by kernel_rfl
theorem ty_62 : ty Tryd.prog 62 = { kind := 9, size := 1, bytes := 8, zero := [V.raw Value.nilFunc] } := by kernel_rfl
theorem ty_63 : ty Tryd.prog 63 = { kind := 4, size := 1, bytes := 24, elem := 3, zero := [V.gs (Value.slice none 0 0) []] } := by kernel_rfl
theorem ty_64 : ty Tryd.prog 64 = { kind := 9, size := 1, bytes := 8, zero := [V.raw Value.nilFunc] } := by kernel_rfl
theorem ty_65 : ty Tryd.prog 65 = { kind := 9, size := 1, bytes := 8, zero := [V.raw Value.nilFunc] } := by kernel_rfl
theorem ty_66 : ty Tryd.prog 66 = { kind := 9, size := 1, bytes := 8, zero := [V.raw Value.nilFunc] } := by kernel_rfl
theorem ty_67 : ty Tryd.prog 67 = { kind := 9, size := 1, bytes := 8, zero := [V.raw Value.nilFunc] } := by kernel_rfl
theorem ty_68 : ty Tryd.prog 68 = { kind := 9, size := 1, bytes := 8, zero := [V.raw Value.nilFunc] } := by kernel_rfl
theorem ty_69 : ty Tryd.prog 69 = { kind := 2, size := 1, bytes := 8, ik := some IntKind.u64, zero := [V.int IntKind.u64 0] } := by kernel_rfl
theorem ty_70 : ty Tryd.prog 70 = { kind := 6, size := 3, bytes := 24, agg := true, offs := [(0, 3), (1, 3), (2, 3)], zero := [V.int IntKind.i64 0, V.int IntKind.i64 0, V.int IntKind.i64 0] } := by kernel_rfl
theorem ty_71 : ty Tryd.prog 71 = { kind := 6, size := 3, bytes := 24, agg := true, offs := [(0, 3), (1, 3), (2, 3)], zero := [V.int IntKind.i64 0, V.int IntKind.i64 0, V.int IntKind.i64 0] } := by kernel_rfl
theorem ty_72 : ty Tryd.prog 72 = { kind := 6, size := 2, bytes := 16, agg := true, offs := [(0, 3), (1, 3)], zero := [V.int IntKind.i64 0, V.int IntKind.i64 0] } := by kernel_rfl
theorem ty_73 : ty Tryd.prog 73 = { kind := 6, size := 2, bytes := 16, agg := true, offs := [(0, 3), (1, 3)], zero := [V.int IntKind.i64 0, V.int IntKind.i64 0] } := by kernel_rfl
theorem ty_74 : ty Tryd.prog 74 = { kind := 6, size := 4, bytes := 40, agg := true, offs := [(0, 71), (3, 9)], zero := [V.int IntKind.i64 0, V.int IntKind.i64 0, V.int IntKind.i64 0, V.str []] } := by kernel_rfl
theorem ty_75 : ty Tryd.prog 75 = { kind := 6, size := 4, bytes := 40, agg := true, offs := [(0, 71), (3, 9)], zero := [V.int IntKind.i64 0, V.int IntKind.i64 0, V.int IntKind.i64 0, V.str []] } := by kernel_rfl
theorem ty_76 : ty Tryd.prog 76 = { kind := 6, size := 3, bytes := 24, agg := true, offs := [(0, 2), (1, 2), (2, 3)], zero := [V.int IntKind.i64 0, V.int IntKind.i64 0, V.int IntKind.i64 0] } := by kernel_rfl
theorem ty_77 : ty Tryd.prog 77 = { kind := 6, size := 3, bytes := 24, agg := true, offs := [(0, 2), (1, 2), (2, 3)], zero := [V.int IntKind.i64 0, V.int IntKind.i64 0, V.int IntKind.i64 0] } := by kernel_rfl
theorem ty_78 : ty Tryd.prog 78 = { kind := 6, size := 10, bytes := 104, agg := true, offs := [(0, 71), (3, 77), (6, 9), (7, 23), (8, 3), (9, 4)], zero := [V.int IntKind.i64 0, V.int IntKind.i64 0, V.int IntKind.i64 0, V.int IntKind.i64 0, V.int IntKind.i64 0, V.int IntKind.i64 0, V.str [], V.gs (Value.slice none 0 0) [], V.int IntKind.i64 0, V.bool false] } := by kernel_rfl
theorem ty_79 : ty Tryd.prog 79 = { kind := 6, size := 10, bytes := 104, agg := true, offs := [(0, 71), (3, 77), (6, 9), (7, 23), (8, 3), (9, 4)], zero := [V.int IntKind.i64 0, V.int IntKind.i64 0, V.int IntKind.i64 0, V.int IntKind.i64 0, V.int IntKind.i64 0, V.int IntKind.i64 0, V.str [], V.gs (Value.slice none 0 0) [], V.int IntKind.i64 0, V.bool false] } := by kernel_rfl
theorem ty_80 : ty Tryd.prog 80 = { kind := 9, size := 1, bytes := 8, zero := [V.raw Value.nilFunc] } := by kernel_rfl
theorem ty_81 : ty Tryd.prog 81 = { kind := 9, size := 1, bytes := 8, zero := [V.raw Value.nilFunc] } := by kernel_rfl
theorem ty_82 : ty Tryd.prog 82 = { kind := 9, size := 1, bytes := 8, zero := [V.raw Value.nilFunc] } := by kernel_rfl
theorem ty_83 : ty Tryd.prog 83 = { kind := 9, size := 1, bytes := 8, zero := [V.raw Value.nilFunc] } := by kernel_rfl
theorem ty_84 : ty Tryd.prog 84 = { kind := 9, size := 1, bytes := 8, zero := [V.raw Value.nilFunc] } := by kernel_rfl
theorem ty_85 : ty Tryd.prog 85 = { kind := 9, size := 1, bytes := 8, zero := [V.raw Value.nilFunc] } := by kernel_rfl
theorem ty_86 : ty Tryd.prog 86 = { kind := 9, size := 1, bytes := 8, zero := [V.raw Value.nilFunc] } := by kernel_rfl
theorem ty_87 : ty Tryd.prog 87 = { kind := 7, size := 1, bytes := 8, elem := 89, zero := [V.raw (Value.pointer none)] } := by kernel_rfl
theorem ty_88 : ty Tryd.prog 88 = { kind := 6, size := 2, bytes := 32, agg := true, offs := [(0, 87), (1, 23)], zero := [V.raw (Value.pointer none), V.gs (Value.slice none 0 0) []] } := by kernel_rfl
theorem ty_89 : ty Tryd.prog 89 = { kind := 6, size := 2, bytes := 32, agg := true, offs := [(0, 87), (1, 23)], zero := [V.raw (Value.pointer none), V.gs (Value.slice none 0 0) []] } := by kernel_rfl
theorem ty_90 : ty Tryd.prog 90 = { kind := 5, size := 20, bytes := 320, agg := true, elem := 89, len := 10, zero := [V.raw (Value.pointer none), V.gs (Value.slice none 0 0) [], V.raw (Value.pointer none), V.gs (Value.slice none 0 0) [], V.raw (Value.pointer none), V.gs (Value.slice none 0 0) [], V.raw (Value.pointer none), V.gs (Value.slice none 0 0) [], V.raw (Value.pointer none), V.gs (Value.slice none 0 0) [], V.raw (Value.pointer none), V.gs (Value.slice none 0 0) [], V.raw (Value.pointer none), V.gs (Value.slice none 0 0) [], V.raw (Value.pointer none), V.gs (Value.slice none 0 0) [], V.raw (Value.pointer none), V.gs (Value.slice none 0 0) [], V.raw (Value.pointer none), V.gs (Value.slice none 0 0) []] } := by kernel_rfl
theorem ty_91 : ty Tryd.prog 91 = { kind := 9, size := 1, bytes := 8, zero := [V.raw Value.nilFunc] } := by kernel_rfl
theorem ty_92 : ty Tryd.prog 92 = { kind := 9, size := 1, bytes := 8, zero := [V.raw Value.nilFunc] } := by kernel_rfl
theorem ty_93 : ty Tryd.prog 93 = { kind := 9, size := 1, bytes := 8, zero := [V.raw Value.nilFunc] } := by kernel_rfl
theorem ty_94 : ty Tryd.prog 94 = { kind := 9, size := 1, bytes := 8, zero := [V.raw Value.nilFunc] } := by kernel_rfl
theorem ty_95 : ty Tryd.prog 95 = { kind := 9, size := 1, bytes := 8, zero := [V.raw Value.nilFunc] } := by kernel_rfl
theorem ty_96 : ty Tryd.prog 96 = { kind := 9, size := 1, bytes := 8, zero := [V.raw Value.nilFunc] } := by kernel_rfl
theorem ty_97 : ty Tryd.prog 97 = { kind := 9, size := 1, bytes := 8, zero := [V.raw Value.nilFunc] } := by kernel_rfl
theorem ty_98 : ty Tryd.prog 98 = { kind := 9, size := 1, bytes := 8, zero := [V.raw Value.nilFunc] } := by kernel_rfl
theorem ty_99 : ty Tryd.prog 99 = { kind := 9, size := 1, bytes := 8, zero := [V.raw Value.nilFunc] } := by kernel_rfl
theorem ty_100 : ty Tryd.prog 100 = { kind := 9, size := 1, bytes := 8, zero := [V.raw Value.nilFunc] } := by kernel_rfl
theorem ty_101 : ty Tryd.prog 101 = { kind := 9, size := 1, bytes := 8, zero := [V.raw Value.nilFunc] } := by kernel_rfl
theorem ty_102 : ty Tryd.prog 102 = { kind := 8, size := 1, bytes := 8, elem := 4, key := 71, zero := [V.raw (Value.map none)] } := by kernel_rfl
theorem ty_103 : ty Tryd.prog 103 = { kind := 8, size := 1, bytes := 8, elem := 4, key := 108, zero := [V.raw (Value.map none)] } := by kernel_rfl
theorem ty_104 : ty Tryd.prog 104 = { kind := 9, size := 1, bytes := 8, zero := [V.raw Value.nilFunc] } := by kernel_rfl
theorem ty_105 : ty Tryd.prog 105 = { kind := 9, size := 1, bytes := 8, zero := [V.raw Value.nilFunc] } := by kernel_rfl
theorem ty_106 : ty Tryd.prog 106 = { kind := 9, size := 1, bytes := 8, zero := [V.raw Value.nilFunc] } := by kernel_rfl
theorem ty_107 : ty Tryd.prog 107 = { kind := 6, size := 3, bytes := 32, agg := true, offs := [(0, 3), (1, 3), (2, 9)], zero := [V.int IntKind.i64 0, V.int IntKind.i64 0, V.str []] } := by kernel_rfl
theorem ty_108 : ty Tryd.prog 108 = { kind := 6, size := 3, bytes := 32, agg := true, offs := [(0, 3), (1, 3), (2, 9)], zero := [V.int IntKind.i64 0, V.int IntKind.i64 0, V.str []] } := by kernel_rfl
theorem ty_109 : ty Tryd.prog 109 = { kind := 9, size := 1, bytes := 8, zero := [V.raw Value.nilFunc] } := by kernel_rfl
theorem ty_110 : ty Tryd.prog 110 = { kind := 9, size := 1, bytes := 8, zero := [V.raw Value.nilFunc] } := by kernel_rfl
theorem ty_111 : ty Tryd.prog 111 = { kind := 9, size := 1, bytes := 8, zero := [V.raw Value.nilFunc] } := by kernel_rfl
theorem ty_112 : ty Tryd.prog 112 = { kind := 9, size := 1, bytes := 8, zero := [V.raw Value.nilFunc] } := by kernel_rfl
theorem ty_113 : ty Tryd.prog 113 = { kind := 4, size := 1, bytes := 24, elem := 9, zero := [V.gs (Value.slice none 0 0) []] } := by kernel_rfl
theorem ty_114 : ty Tryd.prog 114 = { kind := 10, size := 1, bytes := 16, zero := [V.raw Value.nilIface] } := by kernel_rfl
theorem ty_115 : ty Tryd.prog 115 = { kind := 10, size := 1, bytes := 16, zero := [V.raw Value.nilIface] } := by kernel_rfl
theorem ty_116 : ty Tryd.prog 116 = { kind := 11 } := by kernel_rfl
theorem ty_117 : ty Tryd.prog 117 = { kind := 9, size := 1, bytes := 8, zero := [V.raw Value.nilFunc] } := by kernel_rfl
theorem ty_118 : ty Tryd.prog 118 = { kind := 9, size := 1, bytes := 8, zero := [V.raw Value.nilFunc] } := by kernel_rfl
theorem ty_119 : ty Tryd.prog 119 = { kind := 9, size := 1, bytes := 8, zero := [V.raw Value.nilFunc] } := by kernel_rfl
theorem ty_120 : ty Tryd.prog 120 = { kind := 9, size := 1, bytes := 8, zero := [V.raw Value.nilFunc] } := by kernel_rfl
theorem ty_121 : ty Tryd.prog 121 = { kind := 9, size := 1, bytes := 8, zero := [V.raw Value.nilFunc] } := by kernel_rfl
theorem ty_122 : ty Tryd.prog 122 = { kind := 7, size := 1, bytes := 8, elem := 5, zero := [V.raw (Value.pointer none)] } := by kernel_rfl
theorem ty_123 : ty Tryd.prog 123 = { kind := 9, size := 1, bytes := 8, zero := [V.raw Value.nilFunc] } := by kernel_rfl
theorem ty_124 : ty Tryd.prog 124 = { kind := 9, size := 1, bytes := 8, zero := [V.raw Value.nilFunc] } := by kernel_rfl
theorem ty_125 : ty Tryd.prog 125 = { kind := 9, size := 1, bytes := 8, zero := [V.raw Value.nilFunc] } := by kernel_rfl
theorem ty_126 : ty Tryd.prog 126 = { kind := 9, size := 1, bytes := 8, zero := [V.raw Value.nilFunc] } := by kernel_rfl
theorem ty_127 : ty Tryd.prog 127 = { kind := 9, size := 1, bytes := 8, zero := [V.raw Value.nilFunc] } := by kernel_rfl
theorem ty_128 : ty Tryd.prog 128 = { kind := 9, size := 1, bytes := 8, zero := [V.raw Value.nilFunc] } := by kernel_rfl
theorem ty_129 : ty Tryd.prog 129 = { kind := 9, size := 1, bytes := 8, zero := [V.raw Value.nilFunc] } := by kernel_rfl
theorem ty_130 : ty Tryd.prog 130 = { kind := 9, size := 1, bytes := 8, zero := [V.raw Value.nilFunc] } := by kernel_rfl
theorem ty_131 : ty Tryd.prog 131 = { kind := 9, size := 1, bytes := 8, zero := [V.raw Value.nilFunc] } := by kernel_rfl
theorem ty_132 : ty Tryd.prog 132 = { kind := 9, size := 1, bytes := 8, zero := [V.raw Value.nilFunc] } := by kernel_rfl
theorem ty_133 : ty Tryd.prog 133 = { kind := 9, size := 1, bytes := 8, zero := [V.raw Value.nilFunc] } := by kernel_rfl
theorem ty_134 : ty Tryd.prog 134 = { kind := 9, size := 1, bytes := 8, zero := [V.raw Value.nilFunc] } := by kernel_rfl
theorem ty_135 : ty Tryd.prog 135 = { kind := 9, size := 1, bytes := 8, zero := [V.raw Value.nilFunc] } := by kernel_rfl
theorem ty_136 : ty Tryd.prog 136 = { kind := 9, size := 1, bytes := 8, zero := [V.raw Value.nilFunc] } := by kernel_rfl
theorem ty_137 : ty Tryd.prog 137 = { kind := 9, size := 1, bytes := 8, zero := [V.raw Value.nilFunc] } := by kernel_rfl
theorem ty_138 : ty Tryd.prog 138 = { kind := 9, size := 1, bytes := 8, zero := [V.raw Value.nilFunc] } := by kernel_rfl
theorem ty_139 : ty Tryd.prog 139 = { kind := 9, size := 1, bytes := 8, zero := [V.raw Value.nilFunc] } := by kernel_rfl
theorem ty_140 : ty Tryd.prog 140 = { kind := 9, size := 1, bytes := 8, zero := [V.raw Value.nilFunc] } := by kernel_rfl
theorem ty_141 : ty Tryd.prog 141 = { kind := 9, size := 1, bytes := 8, zero := [V.raw Value.nilFunc] } := by kernel_rfl
theorem ty_142 : ty Tryd.prog 142 = { kind := 11 } := by kernel_rfl
theorem ty_143 : ty Tryd.prog 143 = { kind := 9, size := 1, bytes := 8, zero := [V.raw Value.nilFunc] } := by kernel_rfl
theorem ty_144 : ty Tryd.prog 144 = { kind := 11 } := by kernel_rfl
theorem ty_145 : ty Tryd.prog 145 = { kind := 9, size := 1, bytes := 8, zero := [V.raw Value.nilFunc] } := by kernel_rfl
theorem ty_146 : ty Tryd.prog 146 = { kind := 5, size := 24, bytes := 24, agg := true, elem := 5, len := 24, zero := [V.int IntKind.u8 0, V.int IntKind.u8 0, V.int IntKind.u8 0, V.int IntKind.u8 0, V.int IntKind.u8 0, V.int IntKind.u8 0, V.int IntKind.u8 0, V.int IntKind.u8 0, V.int IntKind.u8 0, V.int IntKind.u8 0, V.int IntKind.u8 0, V.int IntKind.u8 0, V.int IntKind.u8 0, V.int IntKind.u8 0, V.int IntKind.u8 0, V.int IntKind.u8 0, V.int IntKind.u8 0, V.int IntKind.u8 0, V.int IntKind.u8 0, V.int IntKind.u8 0, V.int IntKind.u8 0, V.int IntKind.u8 0, V.int IntKind.u8 0, V.int IntKind.u8 0] } := by kernel_rfl
theorem ty_147 : ty Tryd.prog 147 = { kind := 9, size := 1, bytes := 8, zero := [V.raw Value.nilFunc] } := by kernel_rfl
theorem ty_148 : ty Tryd.prog 148 = { kind := 9, size := 1, bytes := 8, zero := [V.raw Value.nilFunc] } := by kernel_rfl
theorem ty_149 : ty Tryd.prog 149 = { kind := 11 } := by kernel_rfl
theorem ty_150 : ty Tryd.prog 150 = { kind := 9, size := 1, bytes := 8, zero := [V.raw Value.nilFunc] } := by kernel_rfl
theorem ty_151 : ty Tryd.prog 151 = { kind := 9, size := 1, bytes := 8, zero := [V.raw Value.nilFunc] } := by kernel_rfl
theorem ty_152 : ty Tryd.prog 152 = { kind := 9, size := 1, bytes := 8, zero := [V.raw Value.nilFunc] } := by kernel_rfl
theorem ty_153 : ty Tryd.prog 153 = { kind := 11 } := by kernel_rfl
theorem ty_154 : ty Tryd.prog 154 = { kind := 9, size := 1, bytes := 8, zero := [V.raw Value.nilFunc] } := by kernel_rfl
theorem ty_155 : ty Tryd.prog 155 = { kind := 9, size := 1, bytes := 8, zero := [V.raw Value.nilFunc] } := by kernel_rfl
theorem ty_156 : ty Tryd.prog 156 = { kind := 9, size := 1, bytes := 8, zero := [V.raw Value.nilFunc] } := by kernel_rfl
theorem ty_157 : ty Tryd.prog 157 = { kind := 9, size := 1, bytes := 8, zero := [V.raw Value.nilFunc] } := by kernel_rfl
theorem ty_158 : ty Tryd.prog 158 = { kind := 5, size := 20, bytes := 160, agg := true, elem := 43, len := 20, zero := [V.int IntKind.u64 0, V.int IntKind.u64 0, V.int IntKind.u64 0, V.int IntKind.u64 0, V.int IntKind.u64 0, V.int IntKind.u64 0, V.int IntKind.u64 0, V.int IntKind.u64 0, V.int IntKind.u64 0, V.int IntKind.u64 0, V.int IntKind.u64 0, V.int IntKind.u64 0, V.int IntKind.u64 0, V.int IntKind.u64 0, V.int IntKind.u64 0, V.int IntKind.u64 0, V.int IntKind.u64 0, V.int IntKind.u64 0, V.int IntKind.u64 0, V.int IntKind.u64 0] } := by kernel_rfl
theorem ty_159 : ty Tryd.prog 159 = { kind := 2, size := 1, bytes := 4, ik := some IntKind.u32, zero := [V.int IntKind.u32 0] } := by kernel_rfl
theorem ty_160 : ty Tryd.prog 160 = { kind := 5, size := 65, bytes := 65, agg := true, elem := 5, len := 65, zero := [V.int IntKind.u8 0, V.int IntKind.u8 0, V.int IntKind.u8 0, V.int IntKind.u8 0, V.int IntKind.u8 0, V.int IntKind.u8 0, V.int IntKind.u8 0, V.int IntKind.u8 0, V.int IntKind.u8 0, V.int IntKind.u8 0, V.int IntKind.u8 0, V.int IntKind.u8 0, V.int IntKind.u8 0, V.int IntKind.u8 0, V.int IntKind.u8 0, V.int IntKind.u8 0, V.int IntKind.u8 0, V.int IntKind.u8 0, V.int IntKind.u8 0, V.int IntKind.u8 0, V.int IntKind.u8 0, V.int IntKind.u8 0, V.int IntKind.u8 0, V.int IntKind.u8 0, V.int IntKind.u8 0, V.int IntKind.u8 0, V.int IntKind.u8 0, V.int IntKind.u8 0, V.int IntKind.u8 0, V.int IntKind.u8 0, V.int IntKind.u8 0, V.int IntKind.u8 0, V.int IntKind.u8 0, V.int IntKind.u8 0, V.int IntKind.u8 0, V.int IntKind.u8 0, V.int IntKind.u8 0, V.int IntKind.u8 0, V.int IntKind.u8 0, V.int IntKind.u8 0, V.int IntKind.u8 0, V.int IntKind.u8 0, V.int IntKind.u8 0, V.int IntKind.u8 0, V.int IntKind.u8 0, V.int IntKind.u8 0, V.int IntKind.u8 0, V.int IntKind.u8 0, V.int IntKind.u8 0, V.int IntKind.u8 0, V.int IntKind.u8 0, V.int IntKind.u8 0, V.int IntKind.u8 0, V.int IntKind.u8 0, V.int IntKind.u8 0, V.int IntKind.u8 0, V.int IntKind.u8 0, V.int IntKind.u8 0, V.int IntKind.u8 0, V.int IntKind.u8 0, V.int IntKind.u8 0, V.int IntKind.u8 0, V.int IntKind.u8 0, V.int IntKind.u8 0, V.int IntKind.u8 0] } := by kernel_rfl
theorem ty_161 : ty Tryd.prog 161 = { kind := 9, size := 1, bytes := 8, zero := [V.raw Value.nilFunc] } := by kernel_rfl
theorem ty_162 : ty Tryd.prog 162 = { kind := 9, size := 1, bytes := 8, zero := [V.raw Value.nilFunc] } := by kernel_rfl
theorem ty_163 : ty Tryd.prog 163 = { kind := 5, size := 256, bytes := 256, agg := true, elem := 5, len := 256, zero := [V.int IntKind.u8 0, V.int IntKind.u8 0, V.int IntKind.u8 0, V.int IntKind.u8 0, V.int IntKind.u8 0, V.int IntKind.u8 0, V.int IntKind.u8 0, V.int IntKind.u8 0, V.int IntKind.u8 0, V.int IntKind.u8 0, V.int IntKind.u8 0, V.int IntKind.u8 0, V.int IntKind.u8 0, V.int IntKind.u8 0, V.int IntKind.u8 0, V.int IntKind.u8 0, V.int IntKind.u8 0, V.int IntKind.u8 0, V.int IntKind.u8 0, V.int IntKind.u8 0, V.int IntKind.u8 0, V.int IntKind.u8 0, V.int IntKind.u8 0, V.int IntKind.u8 0, V.int IntKind.u8 0, V.int IntKind.u8 0, V.int IntKind.u8 0, V.int IntKind.u8 0, V.int IntKind.u8 0, V.int IntKind.u8 0, V.int IntKind.u8 0, V.int IntKind.u8 0, V.int IntKind.u8 0, V.int IntKind.u8 0, V.int IntKind.u8 0, V.int IntKind.u8 0, V.int IntKind.u8 0, V.int IntKind.u8 0, V.int IntKind.u8 0, V.int IntKind.u8 0, V.int IntKind.u8 0, V.int IntKind.u8 0, V.int IntKind.u8 0, V.int IntKind.u8 0, V.int IntKind.u8 0, V.int IntKind.u8 0, V.int IntKind.u8 0, V.int IntKind.u8 0, V.int IntKind.u8 0, V.int IntKind.u8 0, V.int IntKind.u8 0, V.int IntKind.u8 0, V.int IntKind.u8 0, V.int IntKind.u8 0, V.int IntKind.u8 0, V.int IntKind.u8 0, V.int IntKind.u8 0, V.int IntKind.u8 0, V.int IntKind.u8 0, V.int IntKind.u8 0, V.int IntKind.u8 0, V.int IntKind.u8 0, V.int IntKind.u8 0, V.int IntKind.u8 0, V.int IntKind.u8 0, V.int IntKind.u8 0, V.int IntKind.u8 0, V.int IntKind.u8 0, V.int IntKind.u8 0, V.int IntKind.u8 0, V.int IntKind.u8 0, V.int IntKind.u8 0, V.int IntKind.u8 0, V.int IntKind.u8 0, V.int IntKind.u8 0, V.int IntKind.u8 0, V.int IntKind.u8 0, V.int IntKind.u8 0, V.int IntKind.u8 0, V.int IntKind.u8 0, V.int IntKind.u8 0, V.int IntKind.u8 0, V.int IntKind.u8 0, V.int IntKind.u8 0, V.int IntKind.u8 0, V.int IntKind.u8 0, V.int IntKind.u8 0, V.int IntKind.u8 0, V.int IntKind.u8 0, V.int IntKind.u8 0, V.int IntKind.u8 0, V.int IntKind.u8 0, V.int IntKind.u8 0, V.int IntKind.u8 0, V.int IntKind.u8 0, V.int IntKind.u8 0, V.int IntKind.u8 0, V.int IntKind.u8 0, V.int IntKind.u8 0, V.int IntKind.u8 0, V.int IntKind.u8 0, V.int IntKind.u8 0, V.int IntKind.u8 0, V.int IntKind.u8 0, V.int IntKind.u8 0, V.int IntKind.u8 0, V.int IntKind.u8 0, V.int IntKind.u8 0, V.int IntKind.u8 0, V.int IntKind.u8 0, V.int IntKind.u8 0, V.int IntKind.u8 0, V.int IntKind.u8 0, V.int IntKind.u8 0, V.int IntKind.u8 0, V.int IntKind.u8 0, V.int IntKind.u8 0, V.int IntKind.u8 0, V.int IntKind.u8 0, V.int IntKind.u8 0, V.int IntKind.u8 0, V.int IntKind.u8 0, V.int IntKind.u8 0, V.int IntKind.u8 0, V.int IntKind.u8 0, V.int IntKind.u8 0, V.int IntKind.u8 0, V.int IntKind.u8 0, V.int IntKind.u8 0, V.int IntKind.u8 0, V.int IntKind.u8 0, V.int IntKind.u8 0, V.int IntKind.u8 0, V.int IntKind.u8 0, V.int IntKind.u8 0, V.int IntKind.u8 0, V.int IntKind.u8 0, V.int IntKind.u8 0, V.int IntKind.u8 0, V.int IntKind.u8 0, V.int IntKind.u8 0, V.int IntKind.u8 0, V.int IntKind.u8 0, V.int IntKind.u8 0, V.int IntKind.u8 0, V.int IntKind.u8 0, V.int IntKind.u8 0, V.int IntKind.u8 0, V.int IntKind.u8 0, V.int IntKind.u8 0, V.int IntKind.u8 0, V.int IntKind.u8 0, V.int IntKind.u8 0, V.int IntKind.u8 0, V.int IntKind.u8 0, V.int IntKind.u8 0, V.int IntKind.u8 0, V.int IntKind.u8 0, V.int IntKind.u8 0, V.int IntKind.u8 0, V.int IntKind.u8 0, V.int IntKind.u8 0, V.int IntKind.u8 0, V.int IntKind.u8 0, V.int IntKind.u8 0, V.int IntKind.u8 0, V.int IntKind.u8 0, V.int IntKind.u8 0, V.int IntKind.u8 0, V.int IntKind.u8 0, V.int IntKind.u8 0, V.int IntKind.u8 0, V.int IntKind.u8 0, V.int IntKind.u8 0, V.int IntKind.u8 0, V.int IntKind.u8 0, V.int IntKind.u8 0, V.int IntKind.u8 0, V.int IntKind.u8 0, V.int IntKind.u8 0, V.int IntKind.u8 0, V.int IntKind.u8 0, V.int IntKind.u8 0, V.int IntKind.u8 0, V.int IntKind.u8 0, V.int IntKind.u8 0, V.int IntKind.u8 0, V.int IntKind.u8 0, V.int IntKind.u8 0, V.int IntKind.u8 0, V.int IntKind.u8 0, V.int IntKind.u8 0, V.int IntKind.u8 0, V.int IntKind.u8 0, V.int IntKind.u8 0, V.int IntKind.u8 0, V.int IntKind.u8 0, V.int IntKind.u8 0, V.int IntKind.u8 0, V.int IntKind.u8 0, V.int IntKind.u8 0, V.int IntKind.u8 0, V.int IntKind.u8 0, V.int IntKind.u8 0, V.int IntKind.u8 0, V.int IntKind.u8 0, V.int IntKind.u8 0, V.int IntKind.u8 0, V.int IntKind.u8 0, V.int IntKind.u8 0, V.int IntKind.u8 0, V.int IntKind.u8 0, V.int IntKind.u8 0, V.int IntKind.u8 0, V.int IntKind.u8 0, V.int IntKind.u8 0, V.int IntKind.u8 0, V.int IntKind.u8 0, V.int IntKind.u8 0, V.int IntKind.u8 0, V.int IntKind.u8 0, V.int IntKind.u8 0, V.int IntKind.u8 0, V.int IntKind.u8 0, V.int IntKind.u8 0, V.int IntKind.u8 0, V.int IntKind.u8 0, V.int IntKind.u8 0, V.int IntKind.u8 0, V.int IntKind.u8 0, V.int IntKind.u8 0, V.int IntKind.u8 0, V.int IntKind.u8 0, V.int IntKind.u8 0, V.int IntKind.u8 0, V.int IntKind.u8 0, V.int IntKind.u8 0, V.int IntKind.u8 0, V.int IntKind.u8 0, V.int IntKind.u8 0, V.int IntKind.u8 0, V.int IntKind.u8 0, V.int IntKind.u8 0, V.int IntKind.u8 0, V.int IntKind.u8 0, V.int IntKind.u8 0, V.int IntKind.u8 0, V.int IntKind.u8 0, V.int IntKind.u8 0, V.int IntKind.u8 0, V.int IntKind.u8 0, V.int IntKind.u8 0, V.int IntKind.u8 0, V.int IntKind.u8 0, V.int IntKind.u8 0, V.int IntKind.u8 0] } := by kernel_rfl
theorem ty_164 : ty Tryd.prog 164 = { kind := 6, size := 2, bytes := 2, agg := true, offs := [(0, 5), (1, 5)], zero := [V.int IntKind.u8 0, V.int IntKind.u8 0] } := by kernel_rfl
theorem ty_165 : ty Tryd.prog 165 = { kind := 6, size := 2, bytes := 2, agg := true, offs := [(0, 5), (1, 5)], zero := [V.int IntKind.u8 0, V.int IntKind.u8 0] } := by kernel_rfl
theorem ty_166 : ty Tryd.prog 166 = { kind := 5, size := 32, bytes := 32, agg := true, elem := 165, len := 16, zero := [V.int IntKind.u8 0, V.int IntKind.u8 0, V.int IntKind.u8 0, V.int IntKind.u8 0, V.int IntKind.u8 0, V.int IntKind.u8 0, V.int IntKind.u8 0, V.int IntKind.u8 0, V.int IntKind.u8 0, V.int IntKind.u8 0, V.int IntKind.u8 0, V.int IntKind.u8 0, V.int IntKind.u8 0, V.int IntKind.u8 0, V.int IntKind.u8 0, V.int IntKind.u8 0, V.int IntKind.u8 0, V.int IntKind.u8 0, V.int IntKind.u8 0, V.int IntKind.u8 0, V.int IntKind.u8 0, V.int IntKind.u8 0, V.int IntKind.u8 0, V.int IntKind.u8 0, V.int IntKind.u8 0, V.int IntKind.u8 0, V.int IntKind.u8 0, V.int IntKind.u8 0, V.int IntKind.u8 0, V.int IntKind.u8 0, V.int IntKind.u8 0, V.int IntKind.u8 0] } := by kernel_rfl
theorem ty_167 : ty Tryd.prog 167 = { kind := 9, size := 1, bytes := 8, zero := [V.raw Value.nilFunc] } := by kernel_rfl
theorem ty_168 : ty Tryd.prog 168 = { kind := 9, size := 1, bytes := 8, zero := [V.raw Value.nilFunc] } := by kernel_rfl
theorem ty_169 : ty Tryd.prog 169 = { kind := 9, size := 1, bytes := 8, zero := [V.raw Value.nilFunc] } := by kernel_rfl
theorem ty_170 : ty Tryd.prog 170 = { kind := 5, size := 32, bytes := 32, agg := true, elem := 5, len := 32, zero := [V.int IntKind.u8 0, V.int IntKind.u8 0, V.int IntKind.u8 0, V.int IntKind.u8 0, V.int IntKind.u8 0, V.int IntKind.u8 0, V.int IntKind.u8 0, V.int IntKind.u8 0, V.int IntKind.u8 0, V.int IntKind.u8 0, V.int IntKind.u8 0, V.int IntKind.u8 0, V.int IntKind.u8 0, V.int IntKind.u8 0, V.int IntKind.u8 0, V.int IntKind.u8 0, V.int IntKind.u8 0, V.int IntKind.u8 0, V.int IntKind.u8 0, V.int IntKind.u8 0, V.int IntKind.u8 0, V.int IntKind.u8 0, V.int IntKind.u8 0, V.int IntKind.u8 0, V.int IntKind.u8 0, V.int IntKind.u8 0, V.int IntKind.u8 0, V.int IntKind.u8 0, V.int IntKind.u8 0, V.int IntKind.u8 0, V.int IntKind.u8 0, V.int IntKind.u8 0] } := by kernel_rfl
theorem ty_171 : ty Tryd.prog 171 = { kind := 5, size := 64, bytes := 64, agg := true, elem := 5, len := 64, zero := [V.int IntKind.u8 0, V.int IntKind.u8 0, V.int IntKind.u8 0, V.int IntKind.u8 0, V.int IntKind.u8 0, V.int IntKind.u8 0, V.int IntKind.u8 0, V.int IntKind.u8 0, V.int IntKind.u8 0, V.int IntKind.u8 0, V.int IntKind.u8 0, V.int IntKind.u8 0, V.int IntKind.u8 0, V.int IntKind.u8 0, V.int IntKind.u8 0, V.int IntKind.u8 0, V.int IntKind.u8 0, V.int IntKind.u8 0, V.int IntKind.u8 0, V.int IntKind.u8 0, V.int IntKind.u8 0, V.int IntKind.u8 0, V.int IntKind.u8 0, V.int IntKind.u8 0, V.int IntKind.u8 0, V.int IntKind.u8 0, V.int IntKind.u8 0, V.int IntKind.u8 0, V.int IntKind.u8 0, V.int IntKind.u8 0, V.int IntKind.u8 0, V.int IntKind.u8 0, V.int IntKind.u8 0, V.int IntKind.u8 0, V.int IntKind.u8 0, V.int IntKind.u8 0, V.int IntKind.u8 0, V.int IntKind.u8 0, V.int IntKind.u8 0, V.int IntKind.u8 0, V.int IntKind.u8 0, V.int IntKind.u8 0, V.int IntKind.u8 0, V.int IntKind.u8 0, V.int IntKind.u8 0, V.int IntKind.u8 0, V.int IntKind.u8 0, V.int IntKind.u8 0, V.int IntKind.u8 0, V.int IntKind.u8 0, V.int IntKind.u8 0, V.int IntKind.u8 0, V.int IntKind.u8 0, V.int IntKind.u8 0, V.int IntKind.u8 0, V.int IntKind.u8 0, V.int IntKind.u8 0, V.int IntKind.u8 0, V.int IntKind.u8 0, V.int IntKind.u8 0, V.int IntKind.u8 0, V.int IntKind.u8 0, V.int IntKind.u8 0, V.int IntKind.u8 0] } := by kernel_rfl
theorem ty_172 : ty Tryd.prog 172 = { kind := 11 } := by kernel_rfl
theorem ty_173 : ty Tryd.prog 173 = { kind := 9, size := 1, bytes := 8, zero := [V.raw Value.nilFunc] } := by kernel_rfl
theorem ty_174 : ty Tryd.prog 174 = { kind := 6, size := 4, bytes := 40, agg := true, offs := [(0, 17), (1, 17), (2, 17), (3, 9)], zero := [V.raw (Value.pointer none), V.raw (Value.pointer none), V.raw (Value.pointer none), V.str []] } := by kernel_rfl
theorem ty_175 : ty Tryd.prog 175 = { kind := 6, size := 4, bytes := 40, agg := true, offs := [(0, 17), (1, 17), (2, 17), (3, 9)], zero := [V.raw (Value.pointer none), V.raw (Value.pointer none), V.raw (Value.pointer none), V.str []] } := by kernel_rfl
theorem ty_176 : ty Tryd.prog 176 = { kind := 5, agg := true, elem := 16 } := by kernel_rfl
theorem ty_177 : ty Tryd.prog 177 = { kind := 6, agg := true, offs := [(0, 176)] } := by kernel_rfl
theorem ty_178 : ty Tryd.prog 178 = { kind := 6, agg := true, offs := [(0, 176)] } := by kernel_rfl
theorem ty_179 : ty Tryd.prog 179 = { kind := 2, size := 1, bytes := 1, ik := some IntKind.u8, zero := [V.int IntKind.u8 0] } := by kernel_rfl
theorem ty_180 : ty Tryd.prog 180 = { kind := 2, size := 1, bytes := 1, ik := some IntKind.u8, zero := [V.int IntKind.u8 0] } := by kernel_rfl
theorem ty_181 : ty Tryd.prog 181 = { kind := 9, size := 1, bytes := 8, zero := [V.raw Value.nilFunc] } := by kernel_rfl
theorem ty_182 : ty Tryd.prog 182 = { kind := 2, size := 1, bytes := 4, ik := some IntKind.i32, zero := [V.int IntKind.i32 0] } := by kernel_rfl
theorem ty_183 : ty Tryd.prog 183 = { kind := 2, size := 1, bytes := 4, ik := some IntKind.i32, zero := [V.int IntKind.i32 0] } := by kernel_rfl
theorem ty_184 : ty Tryd.prog 184 = { kind := 6, size := 11, bytes := 48, agg := true, offs := [(0, 12), (1, 12), (2, 159), (3, 179), (4, 5), (5, 5), (6, 180), (7, 181), (8, 122), (9, 182), (10, 183)], zero := [V.int IntKind.u64 0, V.int IntKind.u64 0, V.int IntKind.u32 0, V.int IntKind.u8 0, V.int IntKind.u8 0, V.int IntKind.u8 0, V.int IntKind.u8 0, V.raw Value.nilFunc, V.raw (Value.pointer none), V.int IntKind.i32 0, V.int IntKind.i32 0] } := by kernel_rfl
theorem ty_185 : ty Tryd.prog 185 = { kind := 6, size := 11, bytes := 48, agg := true, offs := [(0, 12), (1, 12), (2, 159), (3, 179), (4, 5), (5, 5), (6, 180), (7, 181), (8, 122), (9, 182), (10, 183)], zero := [V.int IntKind.u64 0, V.int IntKind.u64 0, V.int IntKind.u32 0, V.int IntKind.u8 0, V.int IntKind.u8 0, V.int IntKind.u8 0, V.int IntKind.u8 0, V.raw Value.nilFunc, V.raw (Value.pointer none), V.int IntKind.i32 0, V.int IntKind.i32 0] } := by kernel_rfl
theorem eqT_71 : eqT Tryd.prog 71 = some [2, 2, 2] := by kernel_rfl
theorem eqT_73 : eqT Tryd.prog 73 = some [2, 2] := by kernel_rfl
theorem eqT_75 : eqT Tryd.prog 75 = some [2, 2, 2, 3] := by kernel_rfl
theorem eqT_77 : eqT Tryd.prog 77 = some [2, 2, 2] := by kernel_rfl
end Go.Proofs.YtnnigbnlhhikjaaDoor
