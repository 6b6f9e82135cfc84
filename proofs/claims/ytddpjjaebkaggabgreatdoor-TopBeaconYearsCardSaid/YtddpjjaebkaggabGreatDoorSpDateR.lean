
/-
  Years, months, days: what the reference's functions give.
-/
import Derived.Test.YtddpjjaebkaggabGreatDoorSpDate
namespace Go.Proofs.YtddpjjaebkaggabGreatDoor.Co
open Go Go.Evl
section
variable {E : Oracle} (g : Good E)
include g
end
end Go.Proofs.YtddpjjaebkaggabGreatDoor.Co
