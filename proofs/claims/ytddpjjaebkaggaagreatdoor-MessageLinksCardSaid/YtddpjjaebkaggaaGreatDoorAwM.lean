
/-
  The document's examples come out: each call computed by the kernel, then the walk through them.
-/
import Derived.Test.YtddpjjaebkaggaaGreatDoorSpBase
namespace Go.Proofs.YtddpjjaebkaggaaGreatDoor.Co
open Go Go.Evl
section
variable {E : Oracle} (g : Good E)
include g
set_option maxRecDepth 100000
theorem aw1 : Fc E n_law02_sample [] (.d (.agg [.str [113, 49], .str [97, 98], .str [65], .str [116, 49], .str [102, 97, 114], .str [], DI 8900, DI 8920, DI 5, DI 605, DI 180, DI 4, DI 12])) := g.compR 1000 (by decide +kernel)
theorem aw2 : Fc E n_message_PrintMinute [I 605] (.tup [S [49, 48, 48, 53], I 0]) := g.compR 1000 (by decide +kernel)
theorem aw3 : Fc E n_message_ParseMinute [S [48, 48, 48, 53]] (.tup [I 5, I 0]) := g.compR 1000 (by decide +kernel)
theorem aw4 : Fc E n_message_ParseMinute [S [50, 52, 48, 48]] (.tup [I 0, I 25]) := g.compR 1000 (by decide +kernel)
theorem aw5 : Fc E n_message_PrintLine [.d (.agg [.str [78], .str [113, 49], .str [97, 98], .str [65], .str [116, 49], .str [102, 97, 114], .str [], DI 8900, DI 8920, DI 5, DI 605, DI 180, DI 4, DI 12])] (.tup [S [78, 32, 97, 98, 32, 113, 49, 32, 65, 32, 102, 97, 114, 32, 48, 56, 57, 48, 48, 32, 48, 56, 57, 50, 48, 32, 49, 48, 51, 48, 48, 48, 48, 32, 49, 48, 48, 53, 32, 49, 56, 48, 32, 52, 32, 49, 50, 32, 116, 49, 32, 45], I 0]) := g.compR 1000 (by decide +kernel)
theorem aw6 : Fc E n_message_ParseLine [S [78, 32, 97, 98, 32, 113, 49, 32, 65, 32, 102, 97, 114, 32, 48, 56, 57, 48, 48, 32, 48, 56, 57, 50, 48, 32, 49, 48, 51, 48, 48, 48, 48, 32, 49, 48, 48, 53, 32, 49, 56, 48, 32, 52, 32, 49, 50, 32, 116, 49, 32, 45]] (.tup [.d (.agg [.str [78], .str [113, 49], .str [97, 98], .str [65], .str [116, 49], .str [102, 97, 114], .str [], DI 8900, DI 8920, DI 5, DI 605, DI 180, DI 4, DI 12]), I 0, I 0]) := g.compR 1000 (by decide +kernel)
theorem aw7 : Fc E n_message_PrintMessage [.d (.agg [.str [82, 69, 81], .str [104, 101, 114, 101], .str [83, 50, 48, 50, 52], DI 8800, .list 1 [.str [78], .str [113, 49], .str [97, 98], .str [65], .str [116, 49], .str [102, 97, 114], .str [], DI 8900, DI 8920, DI 5, DI 605, DI 180, DI 4, DI 12]])] (.tup [S [83, 76, 79, 84, 83, 32, 82, 69, 81, 32, 104, 101, 114, 101, 32, 83, 50, 48, 50, 52, 32, 48, 56, 56, 48, 48, 10, 78, 32, 97, 98, 32, 113, 49, 32, 65, 32, 102, 97, 114, 32, 48, 56, 57, 48, 48, 32, 48, 56, 57, 50, 48, 32, 49, 48, 51, 48, 48, 48, 48, 32, 49, 48, 48, 53, 32, 49, 56, 48, 32, 52, 32, 49, 50, 32, 116, 49, 32, 45, 10, 69, 78, 68, 32, 48, 49, 10], I 0]) := g.compR 1000 (by decide +kernel)
theorem aw8 : Fc E n_message_ParseMessage [S [83, 76, 79, 84, 83, 32, 82, 69, 81, 32, 104, 101, 114, 101, 32, 83, 50, 48, 50, 52, 32, 48, 56, 56, 48, 48, 10, 78, 32, 97, 98, 32, 113, 49, 32, 65, 32, 102, 97, 114, 32, 48, 56, 57, 48, 48, 32, 48, 56, 57, 50, 48, 32, 49, 48, 51, 48, 48, 48, 48, 32, 49, 48, 48, 53, 32, 49, 56, 48, 32, 52, 32, 49, 50, 32, 116, 49, 32, 45, 10, 69, 78, 68, 32, 48, 50, 10]] (.tup [.d (.agg [.str [], .str [], .str [], DI 0, .list 0 []]), I 2, I 27]) := g.compR 1000 (by decide +kernel)
theorem aw9 : Fc E n_message_ParseMessage [S [83, 76, 79, 84, 83, 32, 82, 69, 81, 32, 104, 101, 114, 101, 32, 83, 50, 48, 50, 52, 32, 48, 56, 56, 48, 48, 10, 78, 32, 97, 98, 32, 113, 49, 32, 65, 32, 102, 97, 114, 32, 48, 56, 57, 48, 48, 32, 48, 56, 57, 50, 48, 32, 49, 48, 51, 48, 48, 48, 48, 32, 49, 48, 48, 53, 32, 49, 56, 48, 32, 52, 32, 49, 50, 32, 116, 49, 32, 45, 10]] (.tup [.d (.agg [.str [], .str [], .str [], DI 0, .list 0 []]), I 2, I 28]) := g.compR 1000 (by decide +kernel)
theorem aw10 : Fc E n_message_ParseMessage [S [83, 76, 79, 84, 83, 32, 82, 69, 81, 32, 104, 101, 114, 101, 32, 83, 50, 48, 50, 52, 32, 48, 56, 56, 48, 48, 10, 78, 32, 97, 98, 32, 113, 49, 32, 65, 32, 102, 97, 114, 32, 48, 56, 57, 48, 48, 32, 48, 56, 57, 50, 48, 32, 49, 48, 51, 48, 48, 48, 48, 32, 49, 48, 48, 53, 32, 49, 56, 48, 32, 52, 32, 49, 50, 32, 116, 49, 32, 45, 10, 69, 78, 68, 32, 48, 49, 10]] (.tup [.d (.agg [.str [82, 69, 81], .str [104, 101, 114, 101], .str [83, 50, 48, 50, 52], DI 8800, .list 1 [.str [78], .str [113, 49], .str [97, 98], .str [65], .str [116, 49], .str [102, 97, 114], .str [], DI 8900, DI 8920, DI 5, DI 605, DI 180, DI 4, DI 12]]), I 0, I 0]) := g.compR 1000 (by decide +kernel)
theorem aw11 : Fc E n_message_Requests [.d (.list 2 [.str [82, 69, 81], .str [104, 101, 114, 101], .str [83, 50, 48, 50, 52], DI 8800, .list 1 [.str [78], .str [113, 49], .str [97, 98], .str [65], .str [116, 49], .str [102, 97, 114], .str [], DI 8900, DI 8920, DI 5, DI 605, DI 180, DI 4, DI 12], .str [82, 69, 81], .str [104, 101, 114, 101], .str [83, 50, 48, 50, 52], DI 8800, .list 2 [.str [67], .str [113, 49], .str [97, 98], .str [65], .str [116, 49], .str [102, 97, 114], .str [], DI 8900, DI 8920, DI 5, DI 605, DI 180, DI 4, DI 12, .str [82], .str [113, 49], .str [97, 98], .str [65], .str [116, 49], .str [102, 97, 114], .str [], DI 8900, DI 8920, DI 5, DI 615, DI 180, DI 4, DI 12]])] (.tup [.d (.list 1 [.str [113, 49], .str [97, 98], .str [65], .str [116, 49], .str [102, 97, 114], .str [], DI 8900, DI 8920, DI 5, DI 615, DI 180, DI 4, DI 12, .bool false, DI 8800]), I 0, I 0]) := g.compR 1000 (by decide +kernel)
theorem aw12 : Fc E n_message_Requests [.d (.list 3 [.str [82, 69, 81], .str [104, 101, 114, 101], .str [83, 50, 48, 50, 52], DI 8800, .list 1 [.str [78], .str [113, 49], .str [97, 98], .str [65], .str [116, 49], .str [102, 97, 114], .str [], DI 8900, DI 8920, DI 5, DI 605, DI 180, DI 4, DI 12], .str [82, 69, 81], .str [104, 101, 114, 101], .str [83, 50, 48, 50, 52], DI 8800, .list 2 [.str [67], .str [113, 49], .str [97, 98], .str [65], .str [116, 49], .str [102, 97, 114], .str [], DI 8900, DI 8920, DI 5, DI 605, DI 180, DI 4, DI 12, .str [82], .str [113, 49], .str [97, 98], .str [65], .str [116, 49], .str [102, 97, 114], .str [], DI 8900, DI 8920, DI 5, DI 615, DI 180, DI 4, DI 12], .str [82, 69, 81], .str [104, 101, 114, 101], .str [83, 50, 48, 50, 52], DI 8800, .list 1 [.str [68], .str [113, 49], .str [97, 98], .str [65], .str [116, 49], .str [102, 97, 114], .str [], DI 8900, DI 8920, DI 5, DI 605, DI 180, DI 4, DI 12]])] (.tup [.d (.list 0 []), I 2, I 29]) := g.compR 1000 (by decide +kernel)
theorem aw13 : Fc E n_message_Answers [S [104, 101, 114, 101], S [83, 50, 48, 50, 52], I 8801, .d (.list 1 [.str [113, 49], .str [97, 98], .str [65], .str [116, 49], .str [102, 97, 114], .str [], DI 8900, DI 8920, DI 5, DI 605, DI 180, DI 4, DI 12]), .d (.list 1 [.str [113, 49], .bool true, DI 615])] (.tup [.d (.agg [.str [65, 78, 83], .str [104, 101, 114, 101], .str [83, 50, 48, 50, 52], DI 8801, .list 1 [.str [79], .str [113, 49], .str [97, 98], .str [65], .str [116, 49], .str [102, 97, 114], .str [], DI 8900, DI 8920, DI 5, DI 615, DI 180, DI 4, DI 12]]), I 0]) := g.compR 1000 (by decide +kernel)
theorem aw14 : Fc E n_message_Results [.d (.agg [.str [65, 78, 83], .str [104, 101, 114, 101], .str [83, 50, 48, 50, 52], DI 8801, .list 1 [.str [79], .str [113, 49], .str [97, 98], .str [65], .str [116, 49], .str [102, 97, 114], .str [], DI 8900, DI 8920, DI 5, DI 615, DI 180, DI 4, DI 12]])] (.tup [.d (.list 1 [.str [113, 49], .bool true, DI 615]), I 0]) := g.compR 1000 (by decide +kernel)
theorem aw15 : Fc E n_message_Changed [.d (.list 1 [.str [113, 49], .str [97, 98], .str [65], .str [116, 49], .str [102, 97, 114], .str [], DI 8900, DI 8920, DI 5, DI 605, DI 180, DI 4, DI 12]), .d (.list 2 [.str [113, 49], .str [97, 98], .str [65], .str [116, 49], .str [102, 97, 114], .str [], DI 8900, DI 8920, DI 5, DI 615, DI 180, DI 4, DI 12, .str [113, 50], .str [97, 98], .str [65], .str [116, 49], .str [102, 97, 114], .str [], DI 8900, DI 8920, DI 5, DI 605, DI 180, DI 4, DI 12])] (.tup [.d (.list 3 [.str [67], .str [113, 49], .str [97, 98], .str [65], .str [116, 49], .str [102, 97, 114], .str [], DI 8900, DI 8920, DI 5, DI 605, DI 180, DI 4, DI 12, .str [82], .str [113, 49], .str [97, 98], .str [65], .str [116, 49], .str [102, 97, 114], .str [], DI 8900, DI 8920, DI 5, DI 615, DI 180, DI 4, DI 12, .str [78], .str [113, 50], .str [97, 98], .str [65], .str [116, 49], .str [102, 97, 114], .str [], DI 8900, DI 8920, DI 5, DI 605, DI 180, DI 4, DI 12]), I 0]) := g.compR 1000 (by decide +kernel)
set_option maxHeartbeats 4000000 in
theorem s_awake : Fc E n_law02_awake [] (B true) := by
  refine g.fn code_law02_awake rfl ?_
  repeat' ((conv => whnf); first
  | refine Br.tt ?_
  | refine Br.ff ?_
  | refine Need.w ?_
  | refine Wr.w ?_
  | refine Cmp.t ?_
  | refine Cmp.f ?_
  | refine Rem.w ?_
  | refine Quo.w ?_
  | refine PickV.now rfl ?_
  | refine Pick.now rfl ?_
  | refine Chk.mk rfl ?_
  | refine PickW.w rfl ?_
    | (apply CallI.of; first | exact aw1 g | exact aw2 g | exact aw3 g | exact aw4 g | exact aw5 g | exact aw6 g | exact aw7 g | exact aw8 g | exact aw9 g | exact aw10 g | exact aw11 g | exact aw12 g | exact aw13 g | exact aw14 g | exact aw15 g)
    | (refine Need.mk (by simp only [maxStr, List.length_cons, List.length_nil, List.length_append]; omega) ?_)
    | (exact Ret.mk rfl))
end
end Go.Proofs.YtddpjjaebkaggaaGreatDoor.Co
