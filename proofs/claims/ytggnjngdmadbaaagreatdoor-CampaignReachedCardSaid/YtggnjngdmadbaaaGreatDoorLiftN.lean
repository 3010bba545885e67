/-
  Strings in pieces, cuts, numbers: what the library's functions compute.
-/
import Derived.Test.YtggnjngdmadbaaaGreatDoorLiftJ
import Derived.Lib.SplitLaws
import Derived.Lib.CutLaws
import Derived.Lib.AtoiAll
noncomputable section
set_option linter.unusedSectionVars false
set_option linter.unusedVariables false
set_option linter.unusedSimpArgs false
namespace Go.Lift
open Go
def zy5(sep s:ByteArray):Option (List ByteArray):=bif sep.size == 1&&decide (s.size≤4294967280) then some (Lib.splitB sep 0 (Lib.countB s sep) s) else none
def atoiN(l:List UInt8):Int×Bool:=match Lib.atoiAll l with
 |.ok v=>(v,true)
 |.range=>(Lib.atoiSat l,false)
 |_=>(0,false)
def yez(s:ByteArray):Option (Int×Bool):=bif decide (s.size≤4294967280) then some (atoiN s.data.toList) else none
end Go.Lift
end
