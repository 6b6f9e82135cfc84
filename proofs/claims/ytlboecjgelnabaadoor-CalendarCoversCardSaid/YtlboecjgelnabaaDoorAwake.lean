
/-
  The document's examples come out: each call computed by the kernel, then the walk through them.
-/
import Derived.Test.YtlboecjgelnabaaDoorSpBase
namespace Go.Proofs.YtlboecjgelnabaaDoor.Co
open Go Go.Evl

abbrev Sea (y : Int) (k : List UInt8) : V := .d (.agg [DI y, .str k])
abbrev Zn : V := .d (.agg [DI 60, .list 2 [DI 13801020, DI 120, DI 14103420, DI 60]])

section
variable {E : Oracle} (g : Good E)
include g
set_option maxRecDepth 100000
theorem aw1 : Fc E n_calendar_Day [I 2026, I 3, I 29] (.tup [I 9584, I 0]) := g.compR 100 (by decide +kernel)
theorem aw2 : Fc E n_calendar_Weekday [I 9584] (.tup [I 6, I 0]) := g.compR 100 (by decide +kernel)
theorem aw3 : Fc E n_calendar_PrintDate [I 59] (.tup [S [50, 48, 48, 48, 45, 48, 50, 45, 50, 57], I 0]) := g.compR 100 (by decide +kernel)
theorem aw4 : Fc E n_calendar_Day [I 2026, I 2, I 30] (.tup [I 0, I 7]) := g.compR 100 (by decide +kernel)
theorem aw5 : Fc E n_calendar_DaysOf [Per 0 9 96] (.tup [LI [0, 1, 7, 8], I 0]) := g.compR 100 (by decide +kernel)
theorem aw6 : Fc E n_calendar_Meet [Per 0 9 96, Per 1 8 64] (.tup [LI [1, 8], I 0]) := g.compR 100 (by decide +kernel)
theorem aw7 : Fc E n_calendar_Shift [Per 0 9 96, I 2] (.tup [Per 2 11 3, I 0]) := g.compR 100 (by decide +kernel)
theorem aw8 : Fc E n_calendar_Join [LI [0, 1, 7, 8]] (.tup [.d (.list 1 [DI 0, DI 8, DI 96]), I 0]) := g.compR 100 (by decide +kernel)
theorem aw9 : Fc E n_calendar_PrintMask [I 96] (.tup [S [48, 48, 48, 48, 48, 54, 55], I 0]) := g.compR 100 (by decide +kernel)
theorem aw10 : Fc E n_calendar_Span [Sea 2026 [83]] (.tup [Per 9584 9793 127, I 0]) := g.compR 100 (by decide +kernel)
theorem aw11 : Fc E n_calendar_Equivalent [I 9594, Sea 2025 [83]] (.tup [I 9230, I 0]) := g.compR 400 (by decide +kernel)
theorem aw12 : Fc E n_calendar_Summer [I 60, I 2026, I 2026] (.tup [Zn, I 0]) := g.compR 100 (by decide +kernel)
theorem aw13 : Fc E n_calendar_Local [Zn, I 13801019] (.tup [I 13801079, I 0]) := g.compR 100 (by decide +kernel)
theorem aw14 : Fc E n_calendar_Local [Zn, I 13801020] (.tup [I 13801140, I 0]) := g.compR 100 (by decide +kernel)
theorem aw15 : Fc E n_calendar_Universal [Zn, I 13801100] (.tup [LI [], I 7]) := g.compR 100 (by decide +kernel)
theorem aw16 : Fc E n_calendar_Universal [Zn, I 14103510] (.tup [LI [14103390, 14103450], I 0]) := g.compR 100 (by decide +kernel)
theorem aw17 : Fc E n_calendar_Draw [I 1, I 3] (.tup [LI [2, 0, 1], I 0]) := g.compR 100 (by decide +kernel)
theorem aw18 : Fc E n_ref01_SameInts [LI [0, 1, 7, 8], LI [0, 1, 7, 8]] (B true) := g.compR 100 (by decide +kernel)
theorem aw19 : Fc E n_ref01_SameInts [LI [1, 8], LI [1, 8]] (B true) := g.compR 100 (by decide +kernel)
theorem aw20 : Fc E n_ref01_SamePeriods [.d (.list 1 [DI 0, DI 8, DI 96]), .d (.list 1 [DI 0, DI 8, DI 96])] (B true) := g.compR 100 (by decide +kernel)
theorem aw21 : Fc E n_ref01_SameInts [LI [14103390, 14103450], LI [14103390, 14103450]] (B true) := g.compR 100 (by decide +kernel)
theorem aw22 : Fc E n_ref01_SameInts [LI [2, 0, 1], LI [2, 0, 1]] (B true) := g.compR 100 (by decide +kernel)

theorem s_awake : Fc E n_law01_awake [] (B true) := by
  refine g.fn code_law01_awake rfl ?_
  repeat' ((conv => whnf); first
    | (refine Br.tt ?_)
    | (refine Br.ff ?_)
    | (refine Need.mk (by first | omega | (simp; done) | (simp; omega)) ?_)
    | (refine Wr.keep (by omega) ?_)
    | (refine Cmp.tt (by first | omega | decide) ?_)
    | (refine Cmp.ff (by first | omega | decide) ?_)
    | (refine Rem.pos (by omega) ?_)
    | (refine Quo.pos (by omega) ?_)
    | (refine PickV.now rfl ?_)
    | (refine Pick.now rfl ?_)
    | (refine PickW.now (by first | omega | decide) rfl ?_)
    | (apply CallI.of; first | exact aw1 g | exact aw2 g | exact aw3 g | exact aw4 g | exact aw5 g | exact aw6 g | exact aw7 g | exact aw8 g | exact aw9 g | exact aw10 g | exact aw11 g | exact aw12 g | exact aw13 g | exact aw14 g | exact aw15 g | exact aw16 g | exact aw17 g | exact aw18 g | exact aw19 g | exact aw20 g | exact aw21 g | exact aw22 g)
    | (exact Ret.mk rfl))
end
end Go.Proofs.YtlboecjgelnabaaDoor.Co

