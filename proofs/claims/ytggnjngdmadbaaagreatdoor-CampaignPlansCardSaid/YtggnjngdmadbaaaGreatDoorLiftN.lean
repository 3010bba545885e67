/-
  Strings in pieces, cuts, numbers: what the library's functions compute.
-/
import Derived.Test.YtggnjngdmadbaaaGreatDoorLiftJ
import Derived.Lib.SplitLaws
import Derived.Lib.AtoiAll
noncomputable section
set_option linter.all false
namespace Go.Lift
open Go
def lR(Yr s:js):Option (List js):=bif Yr.size==1&&decide (s.size≤4294967280)then some (Lib.splitB Yr 0 (Lib.countB s Yr) s)else none
def aT(l:List UInt8):Int×Bool:=match Lib.atoiAll l with
 |.ok v=>(v,true)
 |.range=>(Lib.atoiSat l,false)
 |_=>(0,false)
def Pr(s:js):Option (Int×Bool):=bif decide (s.size≤4294967280)then some (aT s.data.toList)else none
end Go.Lift
end
