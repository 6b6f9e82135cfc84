
/-
  CalendarJoins returns true, for every list of days.
-/
import Derived.Test.YtlboecjgelnabaaDoorFit
import Derived.Test.YtlboecjgelnabaaDoorSpJoin
import Derived.Test.YtlboecjgelnabaaDoorSpLaw
import Derived.Test.YtlboecjgelnabaaDoorAwake
namespace Go.Proofs.YtlboecjgelnabaaDoor.Co
open Go Go.Evl
set_option maxRecDepth 100000

section
variable {E : Oracle} (g : Good E)
include g

theorem r_SamePeriods (l : List (Int × Int × Int)) (hl : l.length ≤ 1048576) : Fc E n_ref01_SamePeriods [LP l, LP l] (B true) := by
  refine g.fn code_ref01_SamePeriods rfl ?_
  repeat' ((conv => whnf); first
    | (refine Br.tt ?_)
    | (refine Br.ff ?_)
    | (refine Need.mk (by first | omega | (simp; done) | (simp; omega)) ?_)
    | (refine Wr.keep (by omega) ?_)
    | (refine Cmp.tt (by first | omega | decide) ?_)
    | (refine Cmp.ff (by first | omega | decide) ?_)
    | (refine Rem.pos (by omega) ?_)
    | (refine Quo.pos (by omega) ?_)
    | (refine PickV.now rfl ?_)
    | (refine Pick.now rfl ?_)
    | (refine PickW.now (by first | omega | decide) rfl ?_))
  refine LoopW.to (LoopW.up g (fun k => [(0, LP l), (1, LP l), (5, I k)]) (fun _ => []) l.length (fun k hk ih => ?_) 0 (Nat.zero_le _)) rfl rfl
  by_cases hlt : k < l.length
  · repeat' ((conv => whnf); first
    | (refine Br.tt ?_)
    | (refine Br.ff ?_)
    | (refine Need.mk (by first | omega | (simp; done) | (simp; omega)) ?_)
    | (refine Wr.keep (by omega) ?_)
    | (refine Cmp.tt (by first | omega | decide) ?_)
    | (refine Cmp.ff (by first | omega | decide) ?_)
    | (refine Rem.pos (by omega) ?_)
    | (refine Quo.pos (by omega) ?_)
    | (refine PickV.now rfl ?_)
    | (refine Pick.now rfl ?_)
    | (refine PickW.now (by first | omega | decide) rfl ?_)
      | (refine PickW.rec cellP_len k (by omega) hlt ?_)
      | (refine Cmp.tt ⟨rfl, rfl, rfl⟩ ?_)
      | (refine LoopW.to (ih hlt) rfl rfl))
  · repeat' ((conv => whnf); first
    | (refine Br.tt ?_)
    | (refine Br.ff ?_)
    | (refine Need.mk (by first | omega | (simp; done) | (simp; omega)) ?_)
    | (refine Wr.keep (by omega) ?_)
    | (refine Cmp.tt (by first | omega | decide) ?_)
    | (refine Cmp.ff (by first | omega | decide) ?_)
    | (refine Rem.pos (by omega) ?_)
    | (refine Quo.pos (by omega) ?_)
    | (refine PickV.now rfl ?_)
    | (refine Pick.now rfl ?_)
    | (refine PickW.now (by first | omega | decide) rfl ?_)
      | (refine Ret.mk rfl))

theorem w_CalendarJoins (l : List Int) (hl : l.length ≤ 1048576) : Fc E n_law01_CalendarJoins [LI l] (B true) := by
  have aw := s_awake g
  have cd := r_CheckDays g l hl
  refine g.fn code_law01_CalendarJoins rfl ?_
  by_cases h1 : 120 < (l.length : Int) ∧ (l.length : Int) ≤ 512 ∨ 514 < (l.length : Int)
  · repeat' ((conv => whnf); first
    | (refine Br.tt ?_)
    | (refine Br.ff ?_)
    | (refine Need.mk (by first | omega | (simp; done) | (simp; omega)) ?_)
    | (refine Wr.keep (by omega) ?_)
    | (refine Cmp.tt (by first | omega | decide) ?_)
    | (refine Cmp.ff (by first | omega | decide) ?_)
    | (refine Rem.pos (by omega) ?_)
    | (refine Quo.pos (by omega) ?_)
    | (refine PickV.now rfl ?_)
    | (refine Pick.now rfl ?_)
    | (refine PickW.now (by first | omega | decide) rfl ?_)
      | (apply CallI.of; assumption)
      | (refine Cmp.mk (fun h => ?_) (fun h => ?_))
      | (refine Rem.any (by omega) (fun r hr he => ?_))
      | (refine Br.mk (fun h => ?_) (fun h => ?_))
      | (refine Ret.mk rfl))
  · by_cases hz : chkDays l = 0
    · have sj := s_Join_ok g l hz
      have rj := r_Join g l hz
      have sp := r_SamePeriods g (joinL l) (by have := outs_length l l.length; have := (chkDays_zero.1 hz).1; unfold joinL; omega)
      rw [hz] at cd
      have sj' : ∀ {n : Nat} {cs : List D}, n = l.length → cs = l.map DI → Fc E n_calendar_Join [.d (.list n cs)] (.tup [LP (joinL l), I 0]) := by
        rintro _ _ rfl rfl; exact sj
      repeat' ((conv => whnf); first
        | (refine Br.tt ?_)
        | (refine Br.ff ?_)
        | (refine Need.mk (by first | omega | (simp; done) | (simp; omega)) ?_)
        | (refine Wr.keep (by omega) ?_)
        | (refine Cmp.tt (by first | omega | decide) ?_)
        | (refine Cmp.ff (by first | omega | decide) ?_)
        | (refine Rem.pos (by omega) ?_)
        | (refine Quo.pos (by omega) ?_)
        | (refine PickV.now rfl ?_)
        | (refine Pick.now rfl ?_)
        | (refine PickW.now (by first | omega | decide) rfl ?_)
        | (apply CallI.of; assumption)
        | (refine CallI.of (sj' (by omega) (by simp)) ?_)
        | (refine Cmp.mk (fun h => ?_) (fun h => ?_))
        | (refine Rem.any (by omega) (fun r hr he => ?_))
        | (refine Br.mk (fun h => ?_) (fun h => ?_))
        | (refine Ret.mk rfl))
      all_goals skip
    · have sj := s_Join_bad g l hz
      generalize chkDays l = c at *
      have sj' : ∀ {n : Nat} {cs : List D}, n = l.length → cs = l.map DI → Fc E n_calendar_Join [.d (.list n cs)] (.tup [LP [], I c]) := by
        rintro _ _ rfl rfl; exact sj
      repeat' ((conv => whnf); first
        | (refine Br.tt ?_)
        | (refine Br.ff ?_)
        | (refine Need.mk (by first | omega | (simp; done) | (simp; omega)) ?_)
        | (refine Wr.keep (by omega) ?_)
        | (refine Cmp.tt (by first | omega | decide) ?_)
        | (refine Cmp.ff (by first | omega | decide) ?_)
        | (refine Rem.pos (by omega) ?_)
        | (refine Quo.pos (by omega) ?_)
        | (refine PickV.now rfl ?_)
        | (refine Pick.now rfl ?_)
        | (refine PickW.now (by first | omega | decide) rfl ?_)
        | (apply CallI.of; assumption)
        | (refine CallI.of (sj' (by omega) (by simp)) ?_)
        | (refine Cmp.mk (fun h => ?_) (fun h => ?_))
        | (refine Rem.any (by omega) (fun r hr he => ?_))
        | (refine Br.mk (fun h => ?_) (fun h => ?_))
        | (refine Ret.mk rfl))
      all_goals skip
end

theorem s_CalendarJoins {E : Oracle} (g : Good E) {xs : List D} (h : fitArgs Tryd.prog [22] xs) (hb : smallL 1048576 xs) : Fc E n_law01_CalendarJoins (asV xs) (B true) := by
  obtain ⟨x, rfl, h1⟩ := args1 h
  obtain ⟨m, cs, rfl, _, h2⟩ := arg_l Tryd.underlying22 h1
  obtain ⟨l, rfl, rfl, _⟩ := fit_ints m h2
  exact w_CalendarJoins g l hb.1.1
end Go.Proofs.YtlboecjgelnabaaDoor.Co

