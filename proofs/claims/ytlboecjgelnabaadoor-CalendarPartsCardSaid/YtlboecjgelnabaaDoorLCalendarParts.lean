/-
  CalendarParts returns true, for every period, day and number: Split and Shift give what the reference gives, or the first error.
-/
import Derived.Test.YtlboecjgelnabaaDoorFit
import Derived.Test.YtlboecjgelnabaaDoorSpTwo
import Derived.Test.YtlboecjgelnabaaDoorAwake
namespace Go.Proofs.YtlboecjgelnabaaDoor.Co
open Go Go.Evl
set_option maxRecDepth 100000

theorem w_CalendarParts {E : Oracle} (g : Good E) (f t d day b : Int) (hday : i64 day) : Fc E n_law01_CalendarParts [Per f t d, I day, I b] (B true) := by
  unfold i64 at hday
  refine g.fn code_law01_CalendarParts rfl ?_
  have k0 := @chkPer_zero f t d
  have k1 : firstI [chkPer f t d, rng b (-99999) 99999] = 0 ↔ (0 ≤ f ∧ f ≤ t ∧ t ≤ 99999 ∧ t - f ≤ 400 ∧ 1 ≤ d ∧ d ≤ 127) ∧ -99999 ≤ b ∧ b ≤ 99999 := by
    have h1 := @chkPer_zero f t d
    have h2 := @rng_zero b (-99999) 99999
    simp only [firstI]
    repeat' split
    all_goals omega
  have s1 := s_Split g f t d day
  have s2 := s_Shift g f t d b
  generalize he1 : (if chkPer f t d ≠ 0 then [Per2 0 0 0 0 0 0, I (chkPer f t d)] else if day ≤ f ∨ t < day then [Per2 0 0 0 0 0 0, I 30] else [Per2 f (day - 1) d day t d, I 0]) = x1 at s1
  generalize he2 : (if firstI [chkPer f t d, rng b (-99999) 99999] ≠ 0 then [Per 0 0 0, I (firstI [chkPer f t d, rng b (-99999) 99999])] else if f + b < 0 ∨ 99999 < t + b then [Per 0 0 0, I 30] else [Per (f + b) (t + b) (refMask d b 7), I 0]) = x2 at s2
  split at he1 <;> rename_i c1
  · split at he2 <;> rename_i c2
    · subst he1; subst he2
      repeat' ((conv => whnf); first
        | (refine Br.tt ?_)
        | (refine Br.ff ?_)
        | (refine Need.mk (by first | omega | (simp; done) | (simp; omega)) ?_)
        | (refine Wr.keep (by omega) ?_)
        | (refine Cmp.tt (by first | omega | decide) ?_)
        | (refine Cmp.ff (by first | omega | decide) ?_)
        | (refine Rem.pos (by omega) ?_)
        | (refine Quo.pos (by omega) ?_)
        | (refine PickV.now rfl ?_)
        | (refine Pick.now rfl ?_)
        | (refine PickW.now (by first | omega | decide) rfl ?_)
        | (refine CallI.of (s_awake g) ?_)
        | (refine CallI.of s1 ?_)
        | (refine CallI.of s2 ?_)
        | (refine CallI.of (r_CheckPeriod g _ _ _) ?_)
        | (refine CallI.of (r_CheckRange g _ _ _) ?_)
        | (refine CallI.of (w_first2 g _ _) ?_)
        | (refine CallI.of (r_Shift g _ _ _ _ (by omega) (by omega)) ?_)
        | (refine Ret.mk rfl))
    · exact absurd (k0.2 (k1.1 (by omega)).1) c1
  · split at he1 <;> rename_i c3
    · split at he2 <;> rename_i c2
      · subst he1; subst he2
        repeat' ((conv => whnf); first
          | (refine Br.tt ?_)
          | (refine Br.ff ?_)
          | (refine Need.mk (by first | omega | (simp; done) | (simp; omega)) ?_)
          | (refine Wr.keep (by omega) ?_)
          | (refine Cmp.tt (by first | omega | decide) ?_)
          | (refine Cmp.ff (by first | omega | decide) ?_)
          | (refine Rem.pos (by omega) ?_)
          | (refine Quo.pos (by omega) ?_)
          | (refine PickV.now rfl ?_)
          | (refine Pick.now rfl ?_)
          | (refine PickW.now (by first | omega | decide) rfl ?_)
          | (refine CallI.of (s_awake g) ?_)
          | (refine CallI.of s1 ?_)
          | (refine CallI.of s2 ?_)
          | (refine CallI.of (r_CheckPeriod g _ _ _) ?_)
          | (refine CallI.of (r_CheckRange g _ _ _) ?_)
          | (refine CallI.of (w_first2 g _ _) ?_)
          | (refine CallI.of (r_Shift g _ _ _ _ (by omega) (by omega)) ?_)
          | (refine Cmp.mk (fun h => ?_) (fun h => ?_))
          | (refine Rem.any (by omega) (fun r hr he => ?_))
          | (refine Br.mk (fun h => ?_) (fun h => ?_))
          | (refine Ret.mk rfl))
      · split at he2 <;> rename_i c4
        all_goals
          subst he1; subst he2
          repeat' ((conv => whnf); first
            | (refine Br.tt ?_)
            | (refine Br.ff ?_)
            | (refine Need.mk (by first | omega | (simp; done) | (simp; omega)) ?_)
            | (refine Wr.keep (by omega) ?_)
            | (refine Cmp.tt (by first | omega | decide) ?_)
            | (refine Cmp.ff (by first | omega | decide) ?_)
            | (refine Rem.pos (by omega) ?_)
            | (refine Quo.pos (by omega) ?_)
            | (refine PickV.now rfl ?_)
            | (refine Pick.now rfl ?_)
            | (refine PickW.now (by first | omega | decide) rfl ?_)
            | (refine CallI.of (s_awake g) ?_)
            | (refine CallI.of s1 ?_)
            | (refine CallI.of s2 ?_)
            | (refine CallI.of (r_CheckPeriod g _ _ _) ?_)
            | (refine CallI.of (r_CheckRange g _ _ _) ?_)
            | (refine CallI.of (w_first2 g _ _) ?_)
            | (refine CallI.of (r_Shift g _ _ _ _ (by omega) (by omega)) ?_)
            | (refine Cmp.mk (fun h => ?_) (fun h => ?_))
            | (refine Rem.any (by omega) (fun r hr he => ?_))
            | (refine Br.mk (fun h => ?_) (fun h => ?_))
            | (refine Ret.mk rfl))
    · split at he2 <;> rename_i c2
      · subst he1; subst he2
        repeat' ((conv => whnf); first
          | (refine Br.tt ?_)
          | (refine Br.ff ?_)
          | (refine Need.mk (by first | omega | (simp; done) | (simp; omega)) ?_)
          | (refine Wr.keep (by omega) ?_)
          | (refine Cmp.tt (by first | omega | decide) ?_)
          | (refine Cmp.ff (by first | omega | decide) ?_)
          | (refine Rem.pos (by omega) ?_)
          | (refine Quo.pos (by omega) ?_)
          | (refine PickV.now rfl ?_)
          | (refine Pick.now rfl ?_)
          | (refine PickW.now (by first | omega | decide) rfl ?_)
          | (refine CallI.of (s_awake g) ?_)
          | (refine CallI.of s1 ?_)
          | (refine CallI.of s2 ?_)
          | (refine CallI.of (r_CheckPeriod g _ _ _) ?_)
          | (refine CallI.of (r_CheckRange g _ _ _) ?_)
          | (refine CallI.of (w_first2 g _ _) ?_)
          | (refine CallI.of (r_Shift g _ _ _ _ (by omega) (by omega)) ?_)
          | (refine Ret.mk rfl))
      · split at he2 <;> rename_i c4
        all_goals
          subst he1; subst he2
          repeat' ((conv => whnf); first
            | (refine Br.tt ?_)
            | (refine Br.ff ?_)
            | (refine Need.mk (by first | omega | (simp; done) | (simp; omega)) ?_)
            | (refine Wr.keep (by omega) ?_)
            | (refine Cmp.tt (by first | omega | decide) ?_)
            | (refine Cmp.ff (by first | omega | decide) ?_)
            | (refine Rem.pos (by omega) ?_)
            | (refine Quo.pos (by omega) ?_)
            | (refine PickV.now rfl ?_)
            | (refine Pick.now rfl ?_)
            | (refine PickW.now (by first | omega | decide) rfl ?_)
            | (refine CallI.of (s_awake g) ?_)
            | (refine CallI.of s1 ?_)
            | (refine CallI.of s2 ?_)
            | (refine CallI.of (r_CheckPeriod g _ _ _) ?_)
            | (refine CallI.of (r_CheckRange g _ _ _) ?_)
            | (refine CallI.of (w_first2 g _ _) ?_)
            | (refine CallI.of (r_Shift g _ _ _ _ (by omega) (by omega)) ?_)
            | (refine Cmp.mk (fun h => ?_) (fun h => ?_))
            | (refine Rem.any (by omega) (fun r hr he => ?_))
            | (refine Br.mk (fun h => ?_) (fun h => ?_))
            | (refine Ret.mk rfl))

theorem s_CalendarParts {E : Oracle} (g : Good E) {xs : List D} (h : fitArgs Tryd.prog [53, 3, 3] xs) : Fc E n_law01_CalendarParts (asV xs) (B true) := by
  obtain ⟨x, y, z, rfl, h1, h2, h3⟩ := args3 h
  obtain ⟨f, t, d, rfl, _⟩ := arg_Per h1
  obtain ⟨day, rfl, hday⟩ := arg_int h2
  obtain ⟨b, rfl, _⟩ := arg_int h3
  exact w_CalendarParts g f t d day b hday
end Go.Proofs.YtlboecjgelnabaaDoor.Co
