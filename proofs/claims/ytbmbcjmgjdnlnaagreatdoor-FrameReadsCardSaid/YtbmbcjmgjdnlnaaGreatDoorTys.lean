/- The types of the program, as the walk reads them. -/
import Derived.Test.YtbmbcjmgjdnlnaaGreatDoorEa
import Derived.KernelRfl
namespace Go.Proofs.YtbmbcjmgjdnlnaaGreatDoor
open Go.RowKit
set_option linter.unusedSimpArgs false
set_option linter.unusedVariables false
set_option linter.unusedSectionVars false
set_option maxHeartbeats 4000000
set_option maxRecDepth 100000
theorem ty_0:ty Tryz.prog 0={ kind:=11 }:=by kernel_rfl
theorem ty_2:ty Tryz.prog 2={ kind:=2,size:=1,bytes:=8,ik:=some IntKind.i64,zero:=[V.int IntKind.i64 0] }:=by kernel_rfl
theorem ty_3:ty Tryz.prog 3={ kind:=2,size:=1,bytes:=8,ik:=some IntKind.i64,zero:=[V.int IntKind.i64 0] }:=by kernel_rfl
theorem ty_4:ty Tryz.prog 4={ kind:=1,size:=1,bytes:=1,zero:=[V.bool false] }:=by kernel_rfl
theorem ty_5:ty Tryz.prog 5={ kind:=2,size:=1,bytes:=1,ik:=some IntKind.u8,zero:=[V.int IntKind.u8 0] }:=by kernel_rfl
theorem ty_6:ty Tryz.prog 6={ kind:=2,size:=1,bytes:=1,ik:=some IntKind.u8,zero:=[V.int IntKind.u8 0] }:=by kernel_rfl
theorem ty_9:ty Tryz.prog 9={ kind:=3,size:=1,bytes:=16,zero:=[V.str []] }:=by kernel_rfl
theorem ty_10:ty Tryz.prog 10={ kind:=3,size:=1,bytes:=16,zero:=[V.str []] }:=by kernel_rfl
theorem ty_11:ty Tryz.prog 11={ kind:=3,size:=1,bytes:=16,zero:=[V.str []] }:=by kernel_rfl
theorem ty_12:ty Tryz.prog 12={ kind:=2,size:=1,bytes:=8,ik:=some IntKind.u64,zero:=[V.int IntKind.u64 0] }:=by kernel_rfl
theorem ty_21:ty Tryz.prog 21={ kind:=2,size:=1,bytes:=4,ik:=some IntKind.i32,zero:=[V.int IntKind.i32 0] }:=by kernel_rfl
theorem ty_22:ty Tryz.prog 22={ kind:=4,size:=1,bytes:=24,elem:=51,zero:=[V.gs (Value.slice none 0 0) []] }:=by kernel_rfl
theorem ty_23:ty Tryz.prog 23={ kind:=4,size:=1,bytes:=24,elem:=72,zero:=[V.gs (Value.slice none 0 0) []] }:=by kernel_rfl
theorem ty_24:ty Tryz.prog 24={ kind:=4,size:=1,bytes:=24,elem:=82,zero:=[V.gs (Value.slice none 0 0) []] }:=by kernel_rfl
theorem ty_25:ty Tryz.prog 25={ kind:=4,size:=1,bytes:=24,elem:=120,zero:=[V.gs (Value.slice none 0 0) []] }:=by kernel_rfl
theorem ty_26:ty Tryz.prog 26={ kind:=4,size:=1,bytes:=24,elem:=124,zero:=[V.gs (Value.slice none 0 0) []] }:=by kernel_rfl
theorem ty_27:ty Tryz.prog 27={ kind:=6,size:=4,bytes:=96,agg:=true,offs:=[(0,23),(1,24),(2,25),(3,26)],zero:=[V.gs (Value.slice none 0 0) [],V.gs (Value.slice none 0 0) [],V.gs (Value.slice none 0 0) [],V.gs (Value.slice none 0 0) []] }:=by kernel_rfl
theorem ty_28:ty Tryz.prog 28={ kind:=6,size:=4,bytes:=96,agg:=true,offs:=[(0,23),(1,24),(2,25),(3,26)],zero:=[V.gs (Value.slice none 0 0) [],V.gs (Value.slice none 0 0) [],V.gs (Value.slice none 0 0) [],V.gs (Value.slice none 0 0) []] }:=by kernel_rfl
theorem ty_29:ty Tryz.prog 29={ kind:=4,size:=1,bytes:=24,elem:=5,zero:=[V.gs (Value.slice none 0 0) []] }:=by kernel_rfl
theorem ty_30:ty Tryz.prog 30={ kind:=6,size:=4,bytes:=56,agg:=true,offs:=[(0,9),(1,29),(2,3),(3,4)],zero:=[V.str [],V.gs (Value.slice none 0 0) [],V.int IntKind.i64 0,V.bool false] }:=by kernel_rfl
theorem ty_31:ty Tryz.prog 31={ kind:=6,size:=4,bytes:=56,agg:=true,offs:=[(0,9),(1,29),(2,3),(3,4)],zero:=[V.str [],V.gs (Value.slice none 0 0) [],V.int IntKind.i64 0,V.bool false] }:=by kernel_rfl
theorem ty_32:ty Tryz.prog 32={ kind:=6,size:=15,bytes:=240,agg:=true,offs:=[(0,3),(1,3),(2,3),(3,3),(4,22),(5,23),(6,28),(10,3),(11,31)],zero:=[V.int IntKind.i64 0,V.int IntKind.i64 0,V.int IntKind.i64 0,V.int IntKind.i64 0,V.gs (Value.slice none 0 0) [],V.gs (Value.slice none 0 0) [],V.gs (Value.slice none 0 0) [],V.gs (Value.slice none 0 0) [],V.gs (Value.slice none 0 0) [],V.gs (Value.slice none 0 0) [],V.int IntKind.i64 0,V.str [],V.gs (Value.slice none 0 0) [],V.int IntKind.i64 0,V.bool false] }:=by kernel_rfl
theorem ty_33:ty Tryz.prog 33={ kind:=6,size:=15,bytes:=240,agg:=true,offs:=[(0,3),(1,3),(2,3),(3,3),(4,22),(5,23),(6,28),(10,3),(11,31)],zero:=[V.int IntKind.i64 0,V.int IntKind.i64 0,V.int IntKind.i64 0,V.int IntKind.i64 0,V.gs (Value.slice none 0 0) [],V.gs (Value.slice none 0 0) [],V.gs (Value.slice none 0 0) [],V.gs (Value.slice none 0 0) [],V.gs (Value.slice none 0 0) [],V.gs (Value.slice none 0 0) [],V.int IntKind.i64 0,V.str [],V.gs (Value.slice none 0 0) [],V.int IntKind.i64 0,V.bool false] }:=by kernel_rfl
theorem ty_34:ty Tryz.prog 34={ kind:=4,size:=1,bytes:=24,elem:=86,zero:=[V.gs (Value.slice none 0 0) []] }:=by kernel_rfl
theorem ty_40:ty Tryz.prog 40={ kind:=4,size:=1,bytes:=24,elem:=33,zero:=[V.gs (Value.slice none 0 0) []] }:=by kernel_rfl
theorem ty_41:ty Tryz.prog 41={ kind:=2,size:=1,bytes:=8,ik:=some IntKind.i64,zero:=[V.int IntKind.i64 0] }:=by kernel_rfl
theorem ty_42:ty Tryz.prog 42={ kind:=11 }:=by kernel_rfl
theorem ty_44:ty Tryz.prog 44={ kind:=11 }:=by kernel_rfl
theorem ty_46:ty Tryz.prog 46={ kind:=11 }:=by kernel_rfl
theorem ty_50:ty Tryz.prog 50={ kind:=2,size:=1,bytes:=2,ik:=some IntKind.u16,zero:=[V.int IntKind.u16 0] }:=by kernel_rfl
theorem ty_51:ty Tryz.prog 51={ kind:=2,size:=1,bytes:=8,ik:=some IntKind.u64,zero:=[V.int IntKind.u64 0] }:=by kernel_rfl
theorem ty_53:ty Tryz.prog 53={ kind:=4,size:=1,bytes:=24,elem:=29,zero:=[V.gs (Value.slice none 0 0) []] }:=by kernel_rfl
theorem ty_54:ty Tryz.prog 54={ kind:=11 }:=by kernel_rfl
theorem ty_57:ty Tryz.prog 57={ kind:=4,size:=1,bytes:=24,elem:=28,zero:=[V.gs (Value.slice none 0 0) []] }:=by kernel_rfl
theorem ty_62:ty Tryz.prog 62={ kind:=6,size:=3,bytes:=24,agg:=true,offs:=[(0,2),(1,2),(2,3)],zero:=[V.int IntKind.i64 0,V.int IntKind.i64 0,V.int IntKind.i64 0] }:=by kernel_rfl
theorem ty_63:ty Tryz.prog 63={ kind:=6,size:=3,bytes:=24,agg:=true,offs:=[(0,2),(1,2),(2,3)],zero:=[V.int IntKind.i64 0,V.int IntKind.i64 0,V.int IntKind.i64 0] }:=by kernel_rfl
theorem ty_64:ty Tryz.prog 64={ kind:=4,size:=1,bytes:=24,elem:=3,zero:=[V.gs (Value.slice none 0 0) []] }:=by kernel_rfl
theorem ty_71:ty Tryz.prog 71={ kind:=6,size:=3,bytes:=24,agg:=true,offs:=[(0,3),(1,3),(2,3)],zero:=[V.int IntKind.i64 0,V.int IntKind.i64 0,V.int IntKind.i64 0] }:=by kernel_rfl
theorem ty_72:ty Tryz.prog 72={ kind:=6,size:=3,bytes:=24,agg:=true,offs:=[(0,3),(1,3),(2,3)],zero:=[V.int IntKind.i64 0,V.int IntKind.i64 0,V.int IntKind.i64 0] }:=by kernel_rfl
theorem ty_81:ty Tryz.prog 81={ kind:=6,size:=2,bytes:=16,agg:=true,offs:=[(0,3),(1,3)],zero:=[V.int IntKind.i64 0,V.int IntKind.i64 0] }:=by kernel_rfl
theorem ty_82:ty Tryz.prog 82={ kind:=6,size:=2,bytes:=16,agg:=true,offs:=[(0,3),(1,3)],zero:=[V.int IntKind.i64 0,V.int IntKind.i64 0] }:=by kernel_rfl
theorem ty_85:ty Tryz.prog 85={ kind:=6,size:=4,bytes:=32,agg:=true,offs:=[(0,5),(1,5),(2,5),(3,29)],zero:=[V.int IntKind.u8 0,V.int IntKind.u8 0,V.int IntKind.u8 0,V.gs (Value.slice none 0 0) []] }:=by kernel_rfl
theorem ty_86:ty Tryz.prog 86={ kind:=6,size:=4,bytes:=32,agg:=true,offs:=[(0,5),(1,5),(2,5),(3,29)],zero:=[V.int IntKind.u8 0,V.int IntKind.u8 0,V.int IntKind.u8 0,V.gs (Value.slice none 0 0) []] }:=by kernel_rfl
theorem ty_97:ty Tryz.prog 97={ kind:=7,size:=1,bytes:=8,elem:=99,zero:=[V.raw (Value.pointer none)] }:=by kernel_rfl
theorem ty_98:ty Tryz.prog 98={ kind:=6,size:=2,bytes:=32,agg:=true,offs:=[(0,29),(1,4)],zero:=[V.gs (Value.slice none 0 0) [],V.bool false] }:=by kernel_rfl
theorem ty_99:ty Tryz.prog 99={ kind:=6,size:=2,bytes:=32,agg:=true,offs:=[(0,29),(1,4)],zero:=[V.gs (Value.slice none 0 0) [],V.bool false] }:=by kernel_rfl
theorem ty_104:ty Tryz.prog 104={ kind:=7,size:=1,bytes:=8,elem:=106,zero:=[V.raw (Value.pointer none)] }:=by kernel_rfl
theorem ty_105:ty Tryz.prog 105={ kind:=6,size:=2,bytes:=32,agg:=true,offs:=[(0,29),(1,4)],zero:=[V.gs (Value.slice none 0 0) [],V.bool false] }:=by kernel_rfl
theorem ty_106:ty Tryz.prog 106={ kind:=6,size:=2,bytes:=32,agg:=true,offs:=[(0,29),(1,4)],zero:=[V.gs (Value.slice none 0 0) [],V.bool false] }:=by kernel_rfl
theorem ty_116:ty Tryz.prog 116={ kind:=11 }:=by kernel_rfl
theorem ty_119:ty Tryz.prog 119={ kind:=6,size:=4,bytes:=40,agg:=true,offs:=[(0,72),(3,9)],zero:=[V.int IntKind.i64 0,V.int IntKind.i64 0,V.int IntKind.i64 0,V.str []] }:=by kernel_rfl
theorem ty_120:ty Tryz.prog 120={ kind:=6,size:=4,bytes:=40,agg:=true,offs:=[(0,72),(3,9)],zero:=[V.int IntKind.i64 0,V.int IntKind.i64 0,V.int IntKind.i64 0,V.str []] }:=by kernel_rfl
theorem ty_121:ty Tryz.prog 121={ kind:=4,size:=1,bytes:=24,elem:=9,zero:=[V.gs (Value.slice none 0 0) []] }:=by kernel_rfl
theorem ty_123:ty Tryz.prog 123={ kind:=6,size:=10,bytes:=104,agg:=true,offs:=[(0,72),(3,63),(6,9),(7,29),(8,3),(9,4)],zero:=[V.int IntKind.i64 0,V.int IntKind.i64 0,V.int IntKind.i64 0,V.int IntKind.i64 0,V.int IntKind.i64 0,V.int IntKind.i64 0,V.str [],V.gs (Value.slice none 0 0) [],V.int IntKind.i64 0,V.bool false] }:=by kernel_rfl
theorem ty_124:ty Tryz.prog 124={ kind:=6,size:=10,bytes:=104,agg:=true,offs:=[(0,72),(3,63),(6,9),(7,29),(8,3),(9,4)],zero:=[V.int IntKind.i64 0,V.int IntKind.i64 0,V.int IntKind.i64 0,V.int IntKind.i64 0,V.int IntKind.i64 0,V.int IntKind.i64 0,V.str [],V.gs (Value.slice none 0 0) [],V.int IntKind.i64 0,V.bool false] }:=by kernel_rfl
theorem ty_141:ty Tryz.prog 141={ kind:=6,size:=3,bytes:=32,agg:=true,offs:=[(0,3),(1,3),(2,9)],zero:=[V.int IntKind.i64 0,V.int IntKind.i64 0,V.str []] }:=by kernel_rfl
theorem ty_142:ty Tryz.prog 142={ kind:=6,size:=3,bytes:=32,agg:=true,offs:=[(0,3),(1,3),(2,9)],zero:=[V.int IntKind.i64 0,V.int IntKind.i64 0,V.str []] }:=by kernel_rfl
theorem ty_151:ty Tryz.prog 151={ kind:=8,size:=1,bytes:=8,elem:=4,key:=72,zero:=[V.raw (Value.map none)] }:=by kernel_rfl
theorem ty_152:ty Tryz.prog 152={ kind:=8,size:=1,bytes:=8,elem:=4,key:=142,zero:=[V.raw (Value.map none)] }:=by kernel_rfl
theorem ty_156:ty Tryz.prog 156={ kind:=5,size:=10,bytes:=160,agg:=true,elem:=9,len:=10,zero:=[V.str [],V.str [],V.str [],V.str [],V.str [],V.str [],V.str [],V.str [],V.str [],V.str []] }:=by kernel_rfl
theorem ty_158:ty Tryz.prog 158={ kind:=2,size:=1,bytes:=8,ik:=some IntKind.u64,zero:=[V.int IntKind.u64 0] }:=by kernel_rfl
theorem ty_171:ty Tryz.prog 171={ kind:=11 }:=by kernel_rfl
theorem ty_185:ty Tryz.prog 185={ kind:=11 }:=by kernel_rfl
theorem ty_189:ty Tryz.prog 189={ kind:=11 }:=by kernel_rfl
theorem ty_196:ty Tryz.prog 196={ kind:=11 }:=by kernel_rfl
theorem ty_217:ty Tryz.prog 217={ kind:=2,size:=1,bytes:=8,ik:=some IntKind.i64,zero:=[V.int IntKind.i64 0] }:=by kernel_rfl
theorem ty_218:ty Tryz.prog 218={ kind:=11 }:=by kernel_rfl
theorem ty_229:ty Tryz.prog 229={ kind:=11 }:=by kernel_rfl
theorem ty_231:ty Tryz.prog 231={ kind:=11 }:=by kernel_rfl
theorem ty_234:ty Tryz.prog 234={ kind:=11 }:=by kernel_rfl
theorem ty_238:ty Tryz.prog 238={ kind:=11 }:=by kernel_rfl
theorem ty_253:ty Tryz.prog 253={ kind:=2,size:=1,bytes:=8,ik:=some IntKind.u64,zero:=[V.int IntKind.u64 0] }:=by kernel_rfl
theorem ty_271:ty Tryz.prog 271={ kind:=11 }:=by kernel_rfl
theorem ty_274:ty Tryz.prog 274={ kind:=5,size:=256,bytes:=256,agg:=true,elem:=5,len:=256,zero:=[V.int IntKind.u8 0,V.int IntKind.u8 0,V.int IntKind.u8 0,V.int IntKind.u8 0,V.int IntKind.u8 0,V.int IntKind.u8 0,V.int IntKind.u8 0,V.int IntKind.u8 0,V.int IntKind.u8 0,V.int IntKind.u8 0,V.int IntKind.u8 0,V.int IntKind.u8 0,V.int IntKind.u8 0,V.int IntKind.u8 0,V.int IntKind.u8 0,V.int IntKind.u8 0,V.int IntKind.u8 0,V.int IntKind.u8 0,V.int IntKind.u8 0,V.int IntKind.u8 0,V.int IntKind.u8 0,V.int IntKind.u8 0,V.int IntKind.u8 0,V.int IntKind.u8 0,V.int IntKind.u8 0,V.int IntKind.u8 0,V.int IntKind.u8 0,V.int IntKind.u8 0,V.int IntKind.u8 0,V.int IntKind.u8 0,V.int IntKind.u8 0,V.int IntKind.u8 0,V.int IntKind.u8 0,V.int IntKind.u8 0,V.int IntKind.u8 0,V.int IntKind.u8 0,V.int IntKind.u8 0,V.int IntKind.u8 0,V.int IntKind.u8 0,V.int IntKind.u8 0,V.int IntKind.u8 0,V.int IntKind.u8 0,V.int IntKind.u8 0,V.int IntKind.u8 0,V.int IntKind.u8 0,V.int IntKind.u8 0,V.int IntKind.u8 0,V.int IntKind.u8 0,V.int IntKind.u8 0,V.int IntKind.u8 0,V.int IntKind.u8 0,V.int IntKind.u8 0,V.int IntKind.u8 0,V.int IntKind.u8 0,V.int IntKind.u8 0,V.int IntKind.u8 0,V.int IntKind.u8 0,V.int IntKind.u8 0,V.int IntKind.u8 0,V.int IntKind.u8 0,V.int IntKind.u8 0,V.int IntKind.u8 0,V.int IntKind.u8 0,V.int IntKind.u8 0,V.int IntKind.u8 0,V.int IntKind.u8 0,V.int IntKind.u8 0,V.int IntKind.u8 0,V.int IntKind.u8 0,V.int IntKind.u8 0,V.int IntKind.u8 0,V.int IntKind.u8 0,V.int IntKind.u8 0,V.int IntKind.u8 0,V.int IntKind.u8 0,V.int IntKind.u8 0,V.int IntKind.u8 0,V.int IntKind.u8 0,V.int IntKind.u8 0,V.int IntKind.u8 0,V.int IntKind.u8 0,V.int IntKind.u8 0,V.int IntKind.u8 0,V.int IntKind.u8 0,V.int IntKind.u8 0,V.int IntKind.u8 0,V.int IntKind.u8 0,V.int IntKind.u8 0,V.int IntKind.u8 0,V.int IntKind.u8 0,V.int IntKind.u8 0,V.int IntKind.u8 0,V.int IntKind.u8 0,V.int IntKind.u8 0,V.int IntKind.u8 0,V.int IntKind.u8 0,V.int IntKind.u8 0,V.int IntKind.u8 0,V.int IntKind.u8 0,V.int IntKind.u8 0,V.int IntKind.u8 0,V.int IntKind.u8 0,V.int IntKind.u8 0,V.int IntKind.u8 0,V.int IntKind.u8 0,V.int IntKind.u8 0,V.int IntKind.u8 0,V.int IntKind.u8 0,V.int IntKind.u8 0,V.int IntKind.u8 0,V.int IntKind.u8 0,V.int IntKind.u8 0,V.int IntKind.u8 0,V.int IntKind.u8 0,V.int IntKind.u8 0,V.int IntKind.u8 0,V.int IntKind.u8 0,V.int IntKind.u8 0,V.int IntKind.u8 0,V.int IntKind.u8 0,V.int IntKind.u8 0,V.int IntKind.u8 0,V.int IntKind.u8 0,V.int IntKind.u8 0,V.int IntKind.u8 0,V.int IntKind.u8 0,V.int IntKind.u8 0,V.int IntKind.u8 0,V.int IntKind.u8 0,V.int IntKind.u8 0,V.int IntKind.u8 0,V.int IntKind.u8 0,V.int IntKind.u8 0,V.int IntKind.u8 0,V.int IntKind.u8 0,V.int IntKind.u8 0,V.int IntKind.u8 0,V.int IntKind.u8 0,V.int IntKind.u8 0,V.int IntKind.u8 0,V.int IntKind.u8 0,V.int IntKind.u8 0,V.int IntKind.u8 0,V.int IntKind.u8 0,V.int IntKind.u8 0,V.int IntKind.u8 0,V.int IntKind.u8 0,V.int IntKind.u8 0,V.int IntKind.u8 0,V.int IntKind.u8 0,V.int IntKind.u8 0,V.int IntKind.u8 0,V.int IntKind.u8 0,V.int IntKind.u8 0,V.int IntKind.u8 0,V.int IntKind.u8 0,V.int IntKind.u8 0,V.int IntKind.u8 0,V.int IntKind.u8 0,V.int IntKind.u8 0,V.int IntKind.u8 0,V.int IntKind.u8 0,V.int IntKind.u8 0,V.int IntKind.u8 0,V.int IntKind.u8 0,V.int IntKind.u8 0,V.int IntKind.u8 0,V.int IntKind.u8 0,V.int IntKind.u8 0,V.int IntKind.u8 0,V.int IntKind.u8 0,V.int IntKind.u8 0,V.int IntKind.u8 0,V.int IntKind.u8 0,V.int IntKind.u8 0,V.int IntKind.u8 0,V.int IntKind.u8 0,V.int IntKind.u8 0,V.int IntKind.u8 0,V.int IntKind.u8 0,V.int IntKind.u8 0,V.int IntKind.u8 0,V.int IntKind.u8 0,V.int IntKind.u8 0,V.int IntKind.u8 0,V.int IntKind.u8 0,V.int IntKind.u8 0,V.int IntKind.u8 0,V.int IntKind.u8 0,V.int IntKind.u8 0,V.int IntKind.u8 0,V.int IntKind.u8 0,V.int IntKind.u8 0,V.int IntKind.u8 0,V.int IntKind.u8 0,V.int IntKind.u8 0,V.int IntKind.u8 0,V.int IntKind.u8 0,V.int IntKind.u8 0,V.int IntKind.u8 0,V.int IntKind.u8 0,V.int IntKind.u8 0,V.int IntKind.u8 0,V.int IntKind.u8 0,V.int IntKind.u8 0,V.int IntKind.u8 0,V.int IntKind.u8 0,V.int IntKind.u8 0,V.int IntKind.u8 0,V.int IntKind.u8 0,V.int IntKind.u8 0,V.int IntKind.u8 0,V.int IntKind.u8 0,V.int IntKind.u8 0,V.int IntKind.u8 0,V.int IntKind.u8 0,V.int IntKind.u8 0,V.int IntKind.u8 0,V.int IntKind.u8 0,V.int IntKind.u8 0,V.int IntKind.u8 0,V.int IntKind.u8 0,V.int IntKind.u8 0,V.int IntKind.u8 0,V.int IntKind.u8 0,V.int IntKind.u8 0,V.int IntKind.u8 0,V.int IntKind.u8 0,V.int IntKind.u8 0,V.int IntKind.u8 0,V.int IntKind.u8 0,V.int IntKind.u8 0,V.int IntKind.u8 0,V.int IntKind.u8 0,V.int IntKind.u8 0,V.int IntKind.u8 0,V.int IntKind.u8 0,V.int IntKind.u8 0,V.int IntKind.u8 0,V.int IntKind.u8 0,V.int IntKind.u8 0,V.int IntKind.u8 0,V.int IntKind.u8 0,V.int IntKind.u8 0,V.int IntKind.u8 0,V.int IntKind.u8 0,V.int IntKind.u8 0,V.int IntKind.u8 0,V.int IntKind.u8 0,V.int IntKind.u8 0,V.int IntKind.u8 0,V.int IntKind.u8 0,V.int IntKind.u8 0,V.int IntKind.u8 0,V.int IntKind.u8 0,V.int IntKind.u8 0] }:=by kernel_rfl
theorem ty_275:ty Tryz.prog 275={ kind:=6,size:=2,bytes:=2,agg:=true,offs:=[(0,5),(1,5)],zero:=[V.int IntKind.u8 0,V.int IntKind.u8 0] }:=by kernel_rfl
theorem ty_276:ty Tryz.prog 276={ kind:=6,size:=2,bytes:=2,agg:=true,offs:=[(0,5),(1,5)],zero:=[V.int IntKind.u8 0,V.int IntKind.u8 0] }:=by kernel_rfl
theorem ty_277:ty Tryz.prog 277={ kind:=5,size:=32,bytes:=32,agg:=true,elem:=276,len:=16,zero:=[V.int IntKind.u8 0,V.int IntKind.u8 0,V.int IntKind.u8 0,V.int IntKind.u8 0,V.int IntKind.u8 0,V.int IntKind.u8 0,V.int IntKind.u8 0,V.int IntKind.u8 0,V.int IntKind.u8 0,V.int IntKind.u8 0,V.int IntKind.u8 0,V.int IntKind.u8 0,V.int IntKind.u8 0,V.int IntKind.u8 0,V.int IntKind.u8 0,V.int IntKind.u8 0,V.int IntKind.u8 0,V.int IntKind.u8 0,V.int IntKind.u8 0,V.int IntKind.u8 0,V.int IntKind.u8 0,V.int IntKind.u8 0,V.int IntKind.u8 0,V.int IntKind.u8 0,V.int IntKind.u8 0,V.int IntKind.u8 0,V.int IntKind.u8 0,V.int IntKind.u8 0,V.int IntKind.u8 0,V.int IntKind.u8 0,V.int IntKind.u8 0,V.int IntKind.u8 0] }:=by kernel_rfl
theorem ty_285:ty Tryz.prog 285={ kind:=11 }:=by kernel_rfl
theorem ty_292:ty Tryz.prog 292={ kind:=2,size:=1,bytes:=1,ik:=some IntKind.u8,zero:=[V.int IntKind.u8 0] }:=by kernel_rfl
theorem ty_293:ty Tryz.prog 293={ kind:=2,size:=1,bytes:=1,ik:=some IntKind.u8,zero:=[V.int IntKind.u8 0] }:=by kernel_rfl
theorem ty_295:ty Tryz.prog 295={ kind:=2,size:=1,bytes:=4,ik:=some IntKind.i32,zero:=[V.int IntKind.i32 0] }:=by kernel_rfl
theorem ty_296:ty Tryz.prog 296={ kind:=2,size:=1,bytes:=4,ik:=some IntKind.i32,zero:=[V.int IntKind.i32 0] }:=by kernel_rfl
theorem eqT_63:eqT Tryz.prog 63=some [2,2,2]:=by kernel_rfl
theorem eqT_72:eqT Tryz.prog 72=some [2,2,2]:=by kernel_rfl
theorem eqT_82:eqT Tryz.prog 82=some [2,2]:=by kernel_rfl
theorem eqT_120:eqT Tryz.prog 120=some [2,2,2,3]:=by kernel_rfl
end Go.Proofs.YtbmbcjmgjdnlnaaGreatDoor
