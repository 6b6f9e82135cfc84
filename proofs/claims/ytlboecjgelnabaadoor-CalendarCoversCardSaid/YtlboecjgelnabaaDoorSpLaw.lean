
/-
  The law's own helpers: an integer, a text, a list, as expected.
-/
import Derived.Test.YtlboecjgelnabaaDoorSpOne
import Derived.Test.YtlboecjgelnabaaDoorSpDraw
namespace Go.Proofs.YtlboecjgelnabaaDoor.Co
open Go Go.Evl

section
variable {E : Oracle} (g : Good E)
include g

end
end Go.Proofs.YtlboecjgelnabaaDoor.Co

