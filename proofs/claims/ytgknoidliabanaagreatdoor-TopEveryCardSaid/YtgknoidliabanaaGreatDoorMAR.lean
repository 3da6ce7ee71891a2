/- TopEvery holds: MAR. -/
import Derived.Shelf.Strconv.Itoa0
import Derived.Test.YtgknoidliabanaaGreatDoorProg
namespace Go.Proofs
open Go.Shelf
def Tryz.LC:Go.Shelf.Ren:=⟨fun | 129=>173 | n=>n,fun | 53=>34 | 3=>3 | 4=>4 | 46=>219 | 5=>5 | 9=>9 | n=>n,fun | n=>n⟩
theorem Tryz.Zm:Go.Proofs.Lays.n129 Tryz.prog Tryz.LC:= {
 mixed:=by kernel_rfl
 f129:=Tryz.func173.trans (congrArg some (by kernel_rfl))
 t3:=Tryz.underlying3
 a3:=Tryz.isAgg3
 z3:=Tryz.sizeOf3
 v3:=Tryz.zeroValue3
 t4:=Tryz.underlying4
 a4:=Tryz.isAgg4
 z4:=Tryz.sizeOf4
 v4:=Tryz.zeroValue4
 t5:=Tryz.underlying5
 a5:=Tryz.isAgg5
 z5:=Tryz.sizeOf5
 v5:=Tryz.zeroValue5
 t9:=Tryz.underlying9
 a9:=Tryz.isAgg9
 z9:=Tryz.sizeOf9
 v9:=Tryz.zeroValue9
 t46:=Tryz.underlying219
 a46:=Tryz.isAgg219
 z46:=Tryz.sizeOf219
 v46:=Tryz.zeroValue219
 t53:=Tryz.underlying34
 a53:=Tryz.isAgg34
 z53:=Tryz.sizeOf34
 v53:=Tryz.zeroValue34 }
theorem Tryz.bits_Len64 (x:Int) (w:World) (h0:0≤x) (h1:x≤18446744073709551615):
  Calls Tryz.prog 173 #[.int .u64 x] w fun e w'=>e= .returned (.int .i64 (Lib.bitLen x.toNat))∧w'=w:=Any.bits_Len64 Tryz.Zm x w h0 h1
end Go.Proofs
