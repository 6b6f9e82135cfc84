/-
  TopTowerServed: what its law leans on, part 12.
-/
import Derived.Laws.RangeAny
import Derived.Lib.SplitLaws
import Derived.Test.YtkgcnknhkobmjaaGreatDoorEvX
import Derived.Test.YtkgcnknhkobmjaaGreatDoorRead
import Derived.Test.YtkgcnknhkobmjaaGreatDoorSpBase
import Derived.Test.YtkgcnknhkobmjaaGreatDoorTsk
namespace Go.Proofs.YtkgcnknhkobmjaaGreatDoor.Co
open Go Go.Evl
section
variable {E : Oracle} (g : Good E)
include g
set_option maxRecDepth 100000
theorem td1:Fc E zex [S [97],I 100] (.d (.agg [.str [97],.str [99],.str [65],.str [],.str [102,97,114],.str [],DI 2,DI 3,DI 127,DI 610,DI 100,DI 3,DI 0])):=g.compR 1000 (by decide+kernel)
theorem td2:Fc E zex [S [98],I 180] (.d (.agg [.str [98],.str [99],.str [65],.str [],.str [102,97,114],.str [],DI 2,DI 3,DI 127,DI 610,DI 180,DI 3,DI 0])):=g.compR 1000 (by decide+kernel)
theorem td3:Fc E zjr [] (.d (.agg [.list 4 [.str [104,105,115,116,111,114,105,99],.list 2 [.str [104,105,115,116,111,114,105,99],.str [61],DI 1,.str [114,101,116,105,109,101,100],.str [61],DI 0],.list 2 [.str [100,97,121,115],.bool true,.str [115,101,97,116,115],.bool true],.str [114,101,116,105,109,101,100],.list 1 [.str [104,105,115,116,111,114,105,99],.str [61],DI 1],.list 2 [.str [100,97,121,115],.bool true,.str [115,101,97,116,115],.bool true],.str [121,101,97,114,114,111,117,110,100],.list 1 [.str [121,101,97,114,114,111,117,110,100],.str [61],DI 1],.list 3 [.str [100,97,121,115],.bool true,.str [115,101,97,116,115],.bool true,.str [100,105,115,116,97,110,99,101],.bool true],.str [111,116,104,101,114,115],.list 0 [],.list 3 [.str [100,97,121,115],.bool true,.str [115,101,97,116,115],.bool true,.str [100,105,115,116,97,110,99,101],.bool true]],DI 2,DI 2,DI 1])):=g.compR 1000 (by decide+kernel)
theorem td4:Fc E zmu [.d (.agg [.list 4 [.str [104,105,115,116,111,114,105,99],.list 2 [.str [104,105,115,116,111,114,105,99],.str [61],DI 1,.str [114,101,116,105,109,101,100],.str [61],DI 0],.list 2 [.str [100,97,121,115],.bool true,.str [115,101,97,116,115],.bool true],.str [114,101,116,105,109,101,100],.list 1 [.str [104,105,115,116,111,114,105,99],.str [61],DI 1],.list 2 [.str [100,97,121,115],.bool true,.str [115,101,97,116,115],.bool true],.str [121,101,97,114,114,111,117,110,100],.list 1 [.str [121,101,97,114,114,111,117,110,100],.str [61],DI 1],.list 3 [.str [100,97,121,115],.bool true,.str [115,101,97,116,115],.bool true,.str [100,105,115,116,97,110,99,101],.bool true],.str [111,116,104,101,114,115],.list 0 [],.list 3 [.str [100,97,121,115],.bool true,.str [115,101,97,116,115],.bool true,.str [100,105,115,116,97,110,99,101],.bool true]],DI 2,DI 2,DI 1]),I 1,.d (.list 2 [.str [97],.str [99],.str [65],.str [],.str [102,97,114],.str [],DI 2,DI 3,DI 127,DI 610,DI 100,DI 3,DI 0,.bool false,.bool false,.bool false,.bool false,DI 0,.str [98],.str [99],.str [65],.str [],.str [102,97,114],.str [],DI 2,DI 3,DI 127,DI 610,DI 180,DI 3,DI 0,.bool false,.bool false,.bool false,.bool false,DI 0])] (.tup [.d (.list 2 [DI 1,DI 0]),.d (DI 0)]):=g.compR 1000 (by decide+kernel)
theorem td5:Fc E zij [] (.d (.agg [.str [115,105,120],.str [84],.str [],DI 60,DI 60,DI 600,DI 600,DI 2,DI 3,DI 127,DI 1])):=g.compR 1000 (by decide+kernel)
theorem td6:Fc E zeh [.d (.agg [.str [98],.str [99],.str [65],.str [],.str [102,97,114],.str [],DI 2,DI 3,DI 127,DI 610,DI 180,DI 3,DI 0])] (.d (.agg [.str [98],.str [99],.str [65],.str [],.str [102,97,114],.str [],DI 2,DI 3,DI 127,DI 610,DI 180,DI 3,DI 0,DI 590,DI 630,DI 20,DI 0,DI 0])):=g.compR 1000 (by decide+kernel)
theorem td7:Fc E zeh [.d (.agg [.str [97],.str [99],.str [65],.str [],.str [102,97,114],.str [],DI 2,DI 3,DI 127,DI 610,DI 100,DI 3,DI 0])] (.d (.agg [.str [97],.str [99],.str [65],.str [],.str [102,97,114],.str [],DI 2,DI 3,DI 127,DI 610,DI 100,DI 3,DI 0,DI 590,DI 630,DI 20,DI 0,DI 0])):=g.compR 1000 (by decide+kernel)
theorem td8:Fc E zbu [.d (.list 1 [.str [115,105,120],.str [84],.str [],DI 60,DI 60,DI 600,DI 600,DI 2,DI 3,DI 127,DI 1]),.d (.list 2 [.str [98],.str [99],.str [65],.str [],.str [102,97,114],.str [],DI 2,DI 3,DI 127,DI 610,DI 180,DI 3,DI 0,DI 590,DI 630,DI 20,DI 0,DI 0,.str [97],.str [99],.str [65],.str [],.str [102,97,114],.str [],DI 2,DI 3,DI 127,DI 610,DI 100,DI 3,DI 0,DI 590,DI 630,DI 20,DI 0,DI 0])] (.tup [.d (.list 2 [.str [98],DI 610,.bool true,.str [97],DI 590,.bool true]),.d (DI 0)]):=g.compR 1000 (by decide+kernel)
theorem td9:Fc E zig [.d (.agg [DI 2,DI 3,DI 127])] (.tup [.d (DI 2),.d (DI 0)]):=g.compR 1000 (by decide+kernel)
theorem yvx:Fc E zhg [I 610] (.tup [.d (.str [49,48,49,48]),.d (DI 0)]):=g.compR 1000 (by decide+kernel)
theorem yvy:Fc E zc9 [.d (.agg [.str [115,105,120],.str [84],.str [],DI 60,DI 60,DI 600,DI 600,DI 2,DI 3,DI 127,DI 1]),I 2] (.tup [.d (.list 1 [DI 3480]),.d (DI 0)]):=g.compR 1000 (by decide+kernel)
theorem yvz:Fc E zgl [.d (.list 2 [DI 1,DI 0]),.d (.list 2 [DI 1,DI 0])] (B true):=g.compR 1000 (by decide+kernel)
theorem yv0:Fc E zgl [.d (.list 1 [DI 3480]),.d (.list 1 [DI 3480])] (B true):=g.compR 1000 (by decide+kernel)
end
end Go.Proofs.YtkgcnknhkobmjaaGreatDoor.Co
