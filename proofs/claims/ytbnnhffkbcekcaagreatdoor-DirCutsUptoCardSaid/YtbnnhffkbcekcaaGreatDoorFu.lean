/- Plain facts on numbers, bits and bytes. -/
import Derived.Test.YtbnnhffkbcekcaaGreatDoorFd
import Derived.KernelRfl
import Derived.Laws.RangeAny
set_option linter.unusedVariables false
set_option linter.unusedSimpArgs false
namespace Go.Eng
open Go Go.Eng
end Go.Eng