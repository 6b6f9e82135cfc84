
/-
  CalendarTurns returns true, for every day.
-/
import Derived.Test.YtlboecjgelnabaaGreatDoorFit
import Derived.Test.YtlboecjgelnabaaGreatDoorPlTurn
import Derived.Test.YtlboecjgelnabaaGreatDoorSpLaw
import Derived.Test.YtlboecjgelnabaaGreatDoorAwake
namespace Go.Proofs.YtlboecjgelnabaaGreatDoor.Co
open Go Go.Evl
set_option maxRecDepth 100000

section
variable {E : Oracle} (g : Good E)
include g

set_option maxHeartbeats 8000000 in
theorem w_CalendarTurns (day : Int) : Fc E n_law01_CalendarTurns [I day] (B true) := by
  have aw := s_awake g
  have cd := r_CheckDay g day
  refine g.fn code_law01_CalendarTurns rfl ?_
  by_cases hr : rng day 0 99999 = 0
  · have hd := rng_zero.1 hr
    rw [hr] at cd
    obtain ⟨y, m, d, h⟩ := exists_date day (by omega)
    have hl := lenM_le y m
    have f1 := s_Date_ok g h hd
    have f2 := s_Day_ok g y m d (chkDate_of h hd.2)
    rw [h.e] at f2
    have f3 := s_PrintDate_ok g h hd
    obtain ⟨n, e, f4, hp⟩ := s_ParseDate g (dateL y m d)
    obtain ⟨rfl, rfl⟩ := dateL_parse h hd.2 hp
    have f5 := s_Weekday_ok g n hd
    have hy := h.hy
    have hm := h.hm
    have hdd := h.hd
    have zh := zeller_hi h
    have zl := zeller_lo h
    generalize dateL y m d = s at *
    clear hp hr
    by_cases hx : n = 99999
    · obtain ⟨e1, e2, e3⟩ := (by rw [hx] at h; exact h.uniq last_date : y = 2273 ∧ m = 10 ∧ d = 15)
      subst e1 e2 e3
      have zh := zh (by omega)
      repeat' ((conv => whnf); first
        | (refine Br.tt ?_)
        | (refine Br.ff ?_)
        | (refine Need.mk (by first | omega | (simp; done) | (simp; omega)) ?_)
        | (refine Wr.keep (by omega) ?_)
        | (refine Cmp.tt (by first | omega | decide) ?_)
        | (refine Cmp.ff (by first | omega | decide) ?_)
        | (refine Rem.pos (by omega) ?_)
        | (refine Quo.pos (by omega) ?_)
        | (refine PickV.now rfl ?_)
        | (refine Pick.now rfl ?_)
        | (refine PickW.now (by first | omega | decide) rfl ?_)
        | (apply CallI.of; assumption)
        | (refine Cmp.tt ⟨rfl, rfl, rfl⟩ ?_)
        | (refine Ret.mk rfl))
    · have hn : ∃ y2 m2 d2, IsDate (n + 1) y2 m2 d2 ∧ ((y2 = y ∧ m2 = m ∧ d2 = d + 1 ∧ 1 < d2) ∨ (28 ≤ d ∧ y2 = y ∧ m2 = m + 1 ∧ d2 = 1) ∨ (y2 = y + 1 ∧ m2 = 1 ∧ d2 = 1 ∧ m = 12 ∧ d = 31)) := by
        by_cases h1 : d < lenM y m
        · exact ⟨_, _, _, next_day h h1, .inl ⟨rfl, rfl, rfl, by omega⟩⟩
        · by_cases h2 : m < 12
          · exact ⟨_, _, _, next_month h (by omega) h2, .inr (.inl ⟨by omega, rfl, rfl, rfl⟩)⟩
          · obtain rfl : m = 12 := by omega
            have h31 : lenM y 12 = 31 := by simp [lenM]
            exact ⟨_, _, _, next_year h (by omega) (by omega), .inr (.inr ⟨rfl, rfl, rfl, rfl, by omega⟩)⟩
      obtain ⟨y2, m2, d2, hn1, hn2⟩ := hn
      have f6 := s_Date_ok g hn1 (by omega)
      have f7 := s_Weekday_ok g (n + 1) (by omega)
      clear hn1 h
      by_cases hm3 : m < 3
      · have zl := zl hm3
        rcases hn2 with ⟨rfl, rfl, rfl, h5⟩ | ⟨h5, rfl, rfl, rfl⟩ | ⟨rfl, rfl, rfl, rfl, rfl⟩
        all_goals first
          | (exfalso; omega)
          | skip
        all_goals repeat' ((conv => whnf); first
          | (refine Br.tt ?_)
          | (refine Br.ff ?_)
          | (refine Need.mk (by first | omega | (simp; done) | (simp; omega)) ?_)
          | (refine Wr.keep (by omega) ?_)
          | (refine Cmp.tt (by first | omega | decide) ?_)
          | (refine Cmp.ff (by first | omega | decide) ?_)
          | (refine Rem.pos (by omega) ?_)
          | (refine Quo.pos (by omega) ?_)
          | (refine PickV.now rfl ?_)
          | (refine Pick.now rfl ?_)
          | (refine PickW.now (by first | omega | decide) rfl ?_)
          | (apply CallI.of; assumption)
          | (refine Cmp.tt ⟨rfl, rfl, rfl⟩ ?_)
          | (refine Cmp.ff (by omega) ?_)
          | (refine Ret.mk rfl))
      · have zh := zh hm3
        rcases hn2 with ⟨rfl, rfl, rfl, h5⟩ | ⟨h5, rfl, rfl, rfl⟩ | ⟨rfl, rfl, rfl, rfl, rfl⟩
        all_goals repeat' ((conv => whnf); first
          | (refine Br.tt ?_)
          | (refine Br.ff ?_)
          | (refine Need.mk (by first | omega | (simp; done) | (simp; omega)) ?_)
          | (refine Wr.keep (by omega) ?_)
          | (refine Cmp.tt (by first | omega | decide) ?_)
          | (refine Cmp.ff (by first | omega | decide) ?_)
          | (refine Rem.pos (by omega) ?_)
          | (refine Quo.pos (by omega) ?_)
          | (refine PickV.now rfl ?_)
          | (refine Pick.now rfl ?_)
          | (refine PickW.now (by first | omega | decide) rfl ?_)
          | (apply CallI.of; assumption)
          | (refine Cmp.tt ⟨rfl, rfl, rfl⟩ ?_)
          | (refine Cmp.ff (by omega) ?_)
          | (refine Ret.mk rfl))
  · repeat' ((conv => whnf); first
    | (refine Br.tt ?_)
    | (refine Br.ff ?_)
    | (refine Need.mk (by first | omega | (simp; done) | (simp; omega)) ?_)
    | (refine Wr.keep (by omega) ?_)
    | (refine Cmp.tt (by first | omega | decide) ?_)
    | (refine Cmp.ff (by first | omega | decide) ?_)
    | (refine Rem.pos (by omega) ?_)
    | (refine Quo.pos (by omega) ?_)
    | (refine PickV.now rfl ?_)
    | (refine Pick.now rfl ?_)
    | (refine PickW.now (by first | omega | decide) rfl ?_)
      | (apply CallI.of; assumption)
      | (refine Ret.mk rfl))
end

theorem s_CalendarTurns {E : Oracle} (g : Good E) {xs : List D} (h : fitArgs Tryz.prog [3] xs) : Fc E n_law01_CalendarTurns (asV xs) (B true) := by
  obtain ⟨x, rfl, h1⟩ := args1 h
  obtain ⟨m, rfl, _⟩ := arg_int h1
  exact w_CalendarTurns g m
end Go.Proofs.YtlboecjgelnabaaGreatDoor.Co

