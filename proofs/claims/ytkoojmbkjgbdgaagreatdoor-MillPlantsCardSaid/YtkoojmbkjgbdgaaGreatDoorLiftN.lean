/-
  Strings in pieces, cuts, numbers: what the library's functions compute.
-/
import Derived.Test.YtkoojmbkjgbdgaaGreatDoorLiftJ
import Derived.Lib.SplitLaws
import Derived.Lib.CutLaws
import Derived.Lib.AtoiAll
set_option linter.unusedSectionVars false
set_option linter.unusedVariables false
set_option linter.unusedSimpArgs false
namespace Go.Lift
open Go
noncomputable def splitF (sep s : ByteArray) : Option (List ByteArray) := bif decide (1 ≤ sep.size) && decide (s.size ≤ 4294967280) then some (Lib.splitB sep 0 (Lib.countB s sep) s) else none
noncomputable def cutF (sep s : ByteArray) : Option (ByteArray × ByteArray × Bool) :=
  bif sep.size == 1 && decide (s.size ≤ 4294967280) then some (⟨(Lib.cut s.data.toList sep.data.toList).1.toArray⟩, ⟨(Lib.cut s.data.toList sep.data.toList).2.1.toArray⟩, (Lib.cut s.data.toList sep.data.toList).2.2) else none
noncomputable def atoiN (l : List UInt8) : Int × Bool := match Lib.atoiAll l with
  | .ok v => (v, true)
  | .range => (Lib.atoiSat l, false)
  | _ => (0, false)
noncomputable def atoiF (s : ByteArray) : Option (Int × Bool) := bif decide (s.size ≤ 4294967280) then some (atoiN s.data.toList) else none
end Go.Lift
