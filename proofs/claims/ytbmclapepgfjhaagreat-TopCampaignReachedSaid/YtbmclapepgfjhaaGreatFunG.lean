/-
  The base of this seat.
-/
import Derived.Test.YtbmclapepgfjhaaGreatFunT
import Derived.Test.YtbmclapepgfjhaaGreatFunH
import Derived.Test.YtbmclapepgfjhaaGreatLiftL
import Derived.Test.YtbmclapepgfjhaaGreatLiftN
import Derived.Test.YtbmclapepgfjhaaGreatShelf
import Derived.Lib.AppendIntMem
set_option linter.unusedSectionVars false
set_option linter.unusedVariables false
set_option linter.unusedSimpArgs false
