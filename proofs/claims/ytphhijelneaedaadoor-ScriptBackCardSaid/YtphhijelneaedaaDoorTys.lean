/- The types of the program, as the walk reads them. -/
import Derived.Test.YtphhijelneaedaaDoorEa
import Derived.KernelRfl
namespace Go.Proofs.YtphhijelneaedaaDoor
open Go.RowKit
set_option linter.unusedSimpArgs false
set_option linter.unusedVariables false
set_option linter.unusedSectionVars false
set_option maxHeartbeats 4000000
set_option maxRecDepth 100000
theorem ty_0:ty Tryd.prog 0={ kind:=11 }:=by kernel_rfl
theorem ty_3:ty Tryd.prog 3={ kind:=2,size:=1,bytes:=8,ik:=some IntKind.i64,zero:=[V.int IntKind.i64 0] }:=by kernel_rfl
theorem ty_4:ty Tryd.prog 4={ kind:=1,size:=1,bytes:=1,zero:=[V.bool false] }:=by kernel_rfl
theorem ty_5:ty Tryd.prog 5={ kind:=2,size:=1,bytes:=1,ik:=some IntKind.u8,zero:=[V.int IntKind.u8 0] }:=by kernel_rfl
theorem ty_9:ty Tryd.prog 9={ kind:=3,size:=1,bytes:=16,zero:=[V.str []] }:=by kernel_rfl
theorem ty_21:ty Tryd.prog 21={ kind:=2,size:=1,bytes:=4,ik:=some IntKind.i32,zero:=[V.int IntKind.i32 0] }:=by kernel_rfl
theorem ty_33:ty Tryd.prog 33={ kind:=4,size:=1,bytes:=24,elem:=9,zero:=[V.gs (Value.slice none 0 0) []] }:=by kernel_rfl
theorem ty_49:ty Tryd.prog 49={ kind:=4,size:=1,bytes:=24,elem:=54,zero:=[V.gs (Value.slice none 0 0) []] }:=by kernel_rfl
theorem ty_50:ty Tryd.prog 50={ kind:=4,size:=1,bytes:=24,elem:=57,zero:=[V.gs (Value.slice none 0 0) []] }:=by kernel_rfl
theorem ty_52:ty Tryd.prog 52={ kind:=4,size:=1,bytes:=24,elem:=5,zero:=[V.gs (Value.slice none 0 0) []] }:=by kernel_rfl
theorem ty_54:ty Tryd.prog 54={ kind:=6,size:=5,bytes:=56,agg:=true,offs:=[(0,3),(1,3),(2,3),(3,3),(4,52)],zero:=[V.int IntKind.i64 0,V.int IntKind.i64 0,V.int IntKind.i64 0,V.int IntKind.i64 0,V.gs (Value.slice none 0 0) []] }:=by kernel_rfl
theorem ty_57:ty Tryd.prog 57={ kind:=6,size:=6,bytes:=32,agg:=true,offs:=[(0,5),(1,5),(2,5),(3,5),(4,5),(5,52)],zero:=[V.int IntKind.u8 0,V.int IntKind.u8 0,V.int IntKind.u8 0,V.int IntKind.u8 0,V.int IntKind.u8 0,V.gs (Value.slice none 0 0) []] }:=by kernel_rfl
theorem ty_89:ty Tryd.prog 89={ kind:=6,size:=4,bytes:=56,agg:=true,offs:=[(0,9),(1,52),(2,3),(3,4)],zero:=[V.str [],V.gs (Value.slice none 0 0) [],V.int IntKind.i64 0,V.bool false] }:=by kernel_rfl
theorem ty_90:ty Tryd.prog 90={ kind:=4,size:=1,bytes:=24,elem:=125,zero:=[V.gs (Value.slice none 0 0) []] }:=by kernel_rfl
theorem ty_91:ty Tryd.prog 91={ kind:=4,size:=1,bytes:=24,elem:=3,zero:=[V.gs (Value.slice none 0 0) []] }:=by kernel_rfl
theorem ty_93:ty Tryd.prog 93={ kind:=6,size:=24,bytes:=288,agg:=true,offs:=[(0,3),(1,4),(2,4),(3,3),(4,3),(5,9),(6,52),(7,3),(8,9),(9,4),(10,3),(11,4),(12,89),(16,4),(17,4),(18,9),(19,52),(20,4),(21,3),(22,90),(23,91)],zero:=[V.int IntKind.i64 0,V.bool false,V.bool false,V.int IntKind.i64 0,V.int IntKind.i64 0,V.str [],V.gs (Value.slice none 0 0) [],V.int IntKind.i64 0,V.str [],V.bool false,V.int IntKind.i64 0,V.bool false,V.str [],V.gs (Value.slice none 0 0) [],V.int IntKind.i64 0,V.bool false,V.bool false,V.bool false,V.str [],V.gs (Value.slice none 0 0) [],V.bool false,V.int IntKind.i64 0,V.gs (Value.slice none 0 0) [],V.gs (Value.slice none 0 0) []] }:=by kernel_rfl
theorem ty_96:ty Tryd.prog 96={ kind:=4,size:=1,bytes:=24,elem:=99,zero:=[V.gs (Value.slice none 0 0) []] }:=by kernel_rfl
theorem ty_99:ty Tryd.prog 99={ kind:=5,size:=2,bytes:=32,agg:=true,elem:=9,len:=2,zero:=[V.str [],V.str []] }:=by kernel_rfl
theorem ty_105:ty Tryd.prog 105={ kind:=6,size:=2,bytes:=32,agg:=true,offs:=[(0,103),(1,52)],zero:=[V.raw (Value.pointer none),V.gs (Value.slice none 0 0) []] }:=by kernel_rfl
theorem ty_125:ty Tryd.prog 125={ kind:=6,size:=2,bytes:=24,agg:=true,offs:=[(0,9),(1,3)],zero:=[V.str [],V.int IntKind.i64 0] }:=by kernel_rfl
theorem eqT_125:eqT Tryd.prog 125=some [3,2]:=by kernel_rfl
end Go.Proofs.YtphhijelneaedaaDoor
