/- Plain facts on numbers, bits and bytes. -/
import Derived.Test.YtbnnhffkbcekcaaGreatDoorEd
import Derived.KernelRfl
import Derived.Laws.RangeAny
namespace Go.Eng
open Go Go.Eng
end Go.Eng
