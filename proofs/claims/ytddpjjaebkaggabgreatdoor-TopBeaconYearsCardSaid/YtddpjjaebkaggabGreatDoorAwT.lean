
/-
  The fixed example of the Beacon laws comes out: each call computed by the kernel, then the walk through them.
-/
import Derived.Test.YtddpjjaebkaggabGreatDoorSpBase
namespace Go.Proofs.YtddpjjaebkaggabGreatDoor.Co
open Go Go.Evl
section
variable {E : Oracle} (g : Good E)
include g
set_option maxRecDepth 100000
theorem bt1 : Fc E n_calendar_ParseDate [S [50, 48, 50, 54, 45, 48, 51, 45, 50, 57]] (.tup [I 9584, I 0]) := g.compR 100 (by decide +kernel)
theorem bt2 : Fc E n_calendar_SeasonOf [I 9584] (.tup [.d (.agg [DI 2026, .str [83]]), I 0]) := g.compR 400 (by decide +kernel)
theorem bt3 : Fc E n_calendar_Span [.d (.agg [DI 2026, .str [83]])] (.tup [Per 9584 9793 127, I 0]) := g.compR 100 (by decide +kernel)
theorem bt4 : Fc E n_calendar_Count [Per 9584 9793 127] (.tup [I 210, I 0]) := g.compR 400 (by decide +kernel)
theorem bt5 : Fc E n_calendar_Summer [I 60, I 2026, I 2026] (.tup [.d (.agg [DI 60, .list 2 [DI 13801020, DI 120, DI 14103420, DI 60]]), I 0]) := g.compR 100 (by decide +kernel)
theorem bt6 : Fc E n_calendar_Universal [.d (.agg [DI 60, .list 2 [DI 13801020, DI 120, DI 14103420, DI 60]]), I 13801680] (.tup [LI [13801560], I 0]) := g.compR 100 (by decide +kernel)
theorem bt7 : Fc E n_ref01_SameInts [LI [13801560], LI [13801560]] (B true) := g.compR 100 (by decide +kernel)
theorem s_beacon : Fc E n_top_beaconDay [] (B true) := by
  refine g.fn code_top_beaconDay rfl ?_
  repeat' ((conv => whnf); first
  | refine Br.tt ?_
  | refine Br.ff ?_
  | refine Need.w ?_
  | refine Wr.w ?_
  | refine Cmp.t ?_
  | refine Cmp.f ?_
  | refine Rem.w ?_
  | refine Quo.w ?_
  | refine PickV.now rfl ?_
  | refine Pick.now rfl ?_
  | refine Chk.mk rfl ?_
  | refine PickW.w rfl ?_
    | (apply CallI.of; first | exact bt1 g | exact bt2 g | exact bt3 g | exact bt4 g | exact bt5 g | exact bt6 g | exact bt7 g)
    | (exact Ret.mk rfl))
end
end Go.Proofs.YtddpjjaebkaggabGreatDoor.Co
