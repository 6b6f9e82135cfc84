
/-
  Years, months, days: what the reference's functions give.
-/
import Derived.Test.YtlboecjgelnabaaDoorSpDate
namespace Go.Proofs.YtlboecjgelnabaaDoor.Co
open Go Go.Evl
section
variable {E : Oracle} (g : Good E)
include g

end
end Go.Proofs.YtlboecjgelnabaaDoor.Co

