
/-
  CalendarTiles returns true, for every season, number and year.
-/
import Derived.Test.YtlboecjgelnabaaDoorFit
import Derived.Test.YtlboecjgelnabaaDoorSpSeb
import Derived.Test.YtlboecjgelnabaaDoorAwake
namespace Go.Proofs.YtlboecjgelnabaaDoor.Co
open Go Go.Evl
set_option maxRecDepth 100000

theorem end_ok : beg 2273 false ≤ 99999 := by decide +kernel

section
variable {E : Oracle} (g : Good E)
include g

theorem r_CheckSeason (y : Int) (k : List UInt8) : Fc E n_ref01_CheckSeason [Sn y k] (I (chkSea y k)) := by
  refine g.fn code_ref01_CheckSeason rfl ?_
  have r1 := @rng_zero y 2000 2272
  have r2 : rng y 2000 2272 = 0 ∨ rng y 2000 2272 = 3 := by unfold rng; split <;> simp
  by_cases h1 : rng y 2000 2272 = 0
  · by_cases e : k = [83]
    · subst e
      repeat' ((conv => whnf); first
        | (refine Br.tt ?_)
        | (refine Br.ff ?_)
        | (refine Need.mk (by first | omega | (simp; done) | (simp; omega)) ?_)
        | (refine Wr.keep (by omega) ?_)
        | (refine Cmp.tt (by first | omega | decide) ?_)
        | (refine Cmp.ff (by first | omega | decide) ?_)
        | (refine Rem.pos (by omega) ?_)
        | (refine Quo.pos (by omega) ?_)
        | (refine PickV.now rfl ?_)
        | (refine Pick.now rfl ?_)
        | (refine PickW.now (by first | omega | decide) rfl ?_)
        | (refine CallI.of (r_CheckRange g _ _ _) ?_)
        | (refine Ret.mk ?_))
      simp [chkSea, h1]
    · by_cases e2 : k = [87]
      · subst e2
        repeat' ((conv => whnf); first
          | (refine Br.tt ?_)
          | (refine Br.ff ?_)
          | (refine Need.mk (by first | omega | (simp; done) | (simp; omega)) ?_)
          | (refine Wr.keep (by omega) ?_)
          | (refine Cmp.tt (by first | omega | decide) ?_)
          | (refine Cmp.ff (by first | omega | decide) ?_)
          | (refine Rem.pos (by omega) ?_)
          | (refine Quo.pos (by omega) ?_)
          | (refine PickV.now rfl ?_)
          | (refine Pick.now rfl ?_)
          | (refine PickW.now (by first | omega | decide) rfl ?_)
          | (refine CallI.of (r_CheckRange g _ _ _) ?_)
          | (refine Ret.mk ?_))
        simp [chkSea, h1]
      · repeat' ((conv => whnf); first
        | (refine Br.tt ?_)
        | (refine Br.ff ?_)
        | (refine Need.mk (by first | omega | (simp; done) | (simp; omega)) ?_)
        | (refine Wr.keep (by omega) ?_)
        | (refine Cmp.tt (by first | omega | decide) ?_)
        | (refine Cmp.ff (by first | omega | decide) ?_)
        | (refine Rem.pos (by omega) ?_)
        | (refine Quo.pos (by omega) ?_)
        | (refine PickV.now rfl ?_)
        | (refine Pick.now rfl ?_)
        | (refine PickW.now (by first | omega | decide) rfl ?_)
          | (refine Cmp.ff e ?_)
          | (refine Cmp.ff e2 ?_)
          | (refine CallI.of (r_CheckRange g _ _ _) ?_)
          | (refine Ret.mk ?_))
        simp [chkSea, h1, e, e2]
  · repeat' ((conv => whnf); first
    | (refine Br.tt ?_)
    | (refine Br.ff ?_)
    | (refine Need.mk (by first | omega | (simp; done) | (simp; omega)) ?_)
    | (refine Wr.keep (by omega) ?_)
    | (refine Cmp.tt (by first | omega | decide) ?_)
    | (refine Cmp.ff (by first | omega | decide) ?_)
    | (refine Rem.pos (by omega) ?_)
    | (refine Quo.pos (by omega) ?_)
    | (refine PickV.now rfl ?_)
    | (refine Pick.now rfl ?_)
    | (refine PickW.now (by first | omega | decide) rfl ?_)
      | (refine CallI.of (r_CheckRange g _ _ _) ?_)
      | (refine Ret.mk ?_))
    simp [chkSea, h1]; omega

theorem w_Tiles_bad (y : Int) (k : List UInt8) (off year : Int) (h : chkSea y k ≠ 0 ∨ rng year 2000 2272 ≠ 0) : Fc E n_law01_CalendarTiles [Sn y k, .d (.int .u8 off), I year] (B true) := by
  refine g.fn code_law01_CalendarTiles rfl ?_
  by_cases h1 : chkSea y k = 0
  · have h2 : rng year 2000 2272 ≠ 0 := by omega
    repeat' ((conv => whnf); first
      | (refine Br.tt ?_)
      | (refine Br.ff ?_)
      | (refine Need.mk (by first | omega | (simp; done) | (simp; omega)) ?_)
      | (refine Wr.keep (by omega) ?_)
      | (refine Cmp.tt (by first | omega | decide) ?_)
      | (refine Cmp.ff (by first | omega | decide) ?_)
      | (refine Rem.pos (by omega) ?_)
      | (refine Quo.pos (by omega) ?_)
      | (refine PickV.now rfl ?_)
      | (refine Pick.now rfl ?_)
      | (refine PickW.now (by first | omega | decide) rfl ?_)
      | (refine CallI.of (s_awake g) ?_)
      | (refine CallI.of (r_CheckSeason g _ _) ?_)
      | (refine CallI.of (r_CheckRange g _ _ _) ?_)
      | (refine Ret.mk rfl))
  · repeat' ((conv => whnf); first
    | (refine Br.tt ?_)
    | (refine Br.ff ?_)
    | (refine Need.mk (by first | omega | (simp; done) | (simp; omega)) ?_)
    | (refine Wr.keep (by omega) ?_)
    | (refine Cmp.tt (by first | omega | decide) ?_)
    | (refine Cmp.ff (by first | omega | decide) ?_)
    | (refine Rem.pos (by omega) ?_)
    | (refine Quo.pos (by omega) ?_)
    | (refine PickV.now rfl ?_)
    | (refine Pick.now rfl ?_)
    | (refine PickW.now (by first | omega | decide) rfl ?_)
      | (refine CallI.of (s_awake g) ?_)
      | (refine CallI.of (r_CheckSeason g _ _) ?_)
      | (refine CallI.of (r_CheckRange g _ _ _) ?_)
      | (refine Ret.mk rfl))

theorem w_Tiles_ok (y : Int) (w : Bool) (off year : Int) (hy : 2000 ≤ y ∧ y ≤ 2272) (ho : 0 ≤ off ∧ off ≤ 255) (hr : 2000 ≤ year ∧ year ≤ 2272) : Fc E n_law01_CalendarTiles [Sn y (kd w), .d (.int .u8 off), I year] (B true) := by
  refine g.fn code_law01_CalendarTiles rfl ?_
  have hend := end_ok
  have hcs := r_CheckSeason g y (kd w)
  rw [chkSea_zero.2 ⟨hy, w, rfl⟩] at hcs
  have hcr := r_CheckRange g year 2000 2272
  rw [rng_zero.2 hr] at hcr
  have hsp := s_Span_ok g y w hy
  have l1 := beg_next y w (by omega)
  have l2 := beg_next year w (by omega)
  -- the day
  have hm1 := Int.emod_nonneg off (show beg (nxY y w) (!w) - 1 + 1 - beg y w ≠ 0 by omega)
  have hm2 := Int.emod_lt_of_pos off (show 0 < beg (nxY y w) (!w) - 1 + 1 - beg y w by omega)
  have hin : InSea (beg y w + off % (beg (nxY y w) (!w) - 1 + 1 - beg y w)) y w := ⟨hy, by omega, by omega⟩
  have hcp := r_CheckPeriod g (beg y w) (beg (nxY y w) (!w) - 1) 127
  have hd := hin.ge
  have hlast : InSea (beg (nxY y w) (!w) - 1) y w := ⟨hy, by omega, by omega⟩
  have hl2 := hlast.ge
  rw [chkPer_zero.2 ⟨by omega, by omega, by omega, by omega, by omega, by omega⟩] at hcp
  generalize hday : beg y w + off % (beg (nxY y w) (!w) - 1 + 1 - beg y w) = day at *
  have hso := s_SeasonOf_in g (by omega) hin
  have heq := s_Equiv_ok g year (by omega) hin hr
  have hback : beg year w + day - beg y w < beg (nxY year w) (!w) → Fc E n_calendar_Equivalent [I (beg year w + day - beg y w), Sn y (kd w)] (.tup [I (beg y w + (beg year w + day - beg y w) - beg year w), I 0]) ∧ Fc E n_calendar_SeasonOf [I (beg year w + day - beg y w)] (.tup [Sn year (kd w), I 0]) := by
    intro hlt
    have hin2 : InSea (beg year w + day - beg y w) year w := ⟨hr, by have := hin.lo; omega, hlt⟩
    have hd2 := hin2.ge
    refine ⟨?_, s_SeasonOf_in g (by omega) hin2⟩
    have := s_Equiv_ok g y (by omega) hin2 hy
    rwa [if_neg (by have := hin.hi; omega)] at this
  have hlo := hin.lo
  have hhi := hin.hi
  have hlast : (y = 2272 ∧ w = true) ∨ (∃ n3, Fc E n_calendar_Next [Sn y (kd w)] (.tup [Sn (nxY y w) (kd (!w)), I 0]) ∧ Fc E n_calendar_Span [Sn (nxY y w) (kd (!w))] (.tup [Per (beg (nxY y w) (!w)) (n3 - 1) 127, I 0]) ∧ Fc E n_calendar_Previous [Sn (nxY y w) (kd (!w))] (.tup [Sn y (kd w), I 0])) := by
    by_cases hc : y = 2272 ∧ w = true
    · exact .inl hc
    · have hn : 2000 ≤ nxY y w ∧ nxY y w ≤ 2272 := by cases w <;> simp only [nxY] <;> simp at hc <;> omega
      refine .inr ⟨_, s_Next_ok g y w hy hc, s_Span_ok g _ _ hn, ?_⟩
      cases w
      · exact s_Prev_W g y hy
      · have := s_Prev_S g (y + 1) (by simp only [nxY] at hn; omega)
        rwa [show y + 1 - 1 = y by omega] at this
  rcases hlast with ⟨rfl, rfl⟩ | ⟨n3, hn1, hn2, hn3⟩
  · by_cases hc : beg (nxY year true) (!true) ≤ beg year true + day - beg 2272 true
    · rw [if_pos hc] at heq
      generalize beg (nxY year true) (!true) = m2 at *
      generalize beg year true = m1 at *
      generalize beg (nxY 2272 true) (!true) = n2 at *
      generalize beg 2272 true = n1 at *
      have hz : (m1 + day - n1 - day).tmod 7 = 0 := Int.tmod_eq_zero_of_dvd (by omega)
      repeat' ((conv => whnf); first
        | (refine Br.tt ?_)
        | (refine Br.ff ?_)
        | (refine Need.mk (by first | omega | (simp; done) | (simp; omega)) ?_)
        | (refine Wr.keep (by omega) ?_)
        | (refine Cmp.tt (by first | omega | decide) ?_)
        | (refine Cmp.ff (by first | omega | decide) ?_)
        | (refine Rem.pos (by omega) ?_)
        | (refine Quo.pos (by omega) ?_)
        | (refine PickV.now rfl ?_)
        | (refine Pick.now rfl ?_)
        | (refine PickW.now (by first | omega | decide) rfl ?_)
        | (refine CallI.of (s_awake g) ?_)
        | (refine CallI.of hcs ?_)
        | (refine CallI.of hcr ?_)
        | (refine CallI.of hsp ?_)
        | (refine CallI.of hcp ?_)
        | (rw [hday]; refine CallI.of hso ?_)
        | (refine CallI.of (s_Next_last g) ?_)
        | (refine CallI.of heq ?_)
        | (refine Cmp.tt (by simp; done) ?_)
        | (refine Need.mk (by simp [win]; done) ?_)
        | (refine Ret.mk rfl))
    · rw [if_neg hc] at heq
      obtain ⟨hb1, hb2⟩ := hback (by omega)
      generalize beg (nxY year true) (!true) = m2 at *
      generalize beg year true = m1 at *
      generalize beg (nxY 2272 true) (!true) = n2 at *
      generalize beg 2272 true = n1 at *
      have hz : (m1 + day - n1 - day).tmod 7 = 0 := Int.tmod_eq_zero_of_dvd (by omega)
      repeat' ((conv => whnf); first
        | (refine Br.tt ?_)
        | (refine Br.ff ?_)
        | (refine Need.mk (by first | omega | (simp; done) | (simp; omega)) ?_)
        | (refine Wr.keep (by omega) ?_)
        | (refine Cmp.tt (by first | omega | decide) ?_)
        | (refine Cmp.ff (by first | omega | decide) ?_)
        | (refine Rem.pos (by omega) ?_)
        | (refine Quo.pos (by omega) ?_)
        | (refine PickV.now rfl ?_)
        | (refine Pick.now rfl ?_)
        | (refine PickW.now (by first | omega | decide) rfl ?_)
        | (refine CallI.of (s_awake g) ?_)
        | (refine CallI.of hcs ?_)
        | (refine CallI.of hcr ?_)
        | (refine CallI.of hsp ?_)
        | (refine CallI.of hcp ?_)
        | (rw [hday]; refine CallI.of hso ?_)
        | (refine CallI.of (s_Next_last g) ?_)
        | (refine CallI.of heq ?_)
        | (refine CallI.of hb1 ?_)
        | (refine CallI.of hb2 ?_)
        | (refine Rem.any (by omega) (fun r _ he => ?_); rw [hz] at he)
        | (refine Cmp.tt (by simp; done) ?_)
        | (refine Need.mk (by simp [win]; done) ?_)
        | (refine Ret.mk rfl))
  · by_cases hc : beg (nxY year w) (!w) ≤ beg year w + day - beg y w
    · rw [if_pos hc] at heq
      generalize beg (nxY year w) (!w) = m2 at *
      generalize beg year w = m1 at *
      generalize beg (nxY y w) (!w) = n2 at *
      generalize beg y w = n1 at *
      have hz : (m1 + day - n1 - day).tmod 7 = 0 := Int.tmod_eq_zero_of_dvd (by omega)
      repeat' ((conv => whnf); first
        | (refine Br.tt ?_)
        | (refine Br.ff ?_)
        | (refine Need.mk (by first | omega | (simp; done) | (simp; omega)) ?_)
        | (refine Wr.keep (by omega) ?_)
        | (refine Cmp.tt (by first | omega | decide) ?_)
        | (refine Cmp.ff (by first | omega | decide) ?_)
        | (refine Rem.pos (by omega) ?_)
        | (refine Quo.pos (by omega) ?_)
        | (refine PickV.now rfl ?_)
        | (refine Pick.now rfl ?_)
        | (refine PickW.now (by first | omega | decide) rfl ?_)
        | (refine CallI.of (s_awake g) ?_)
        | (refine CallI.of hcs ?_)
        | (refine CallI.of hcr ?_)
        | (refine CallI.of hsp ?_)
        | (refine CallI.of hcp ?_)
        | (rw [hday]; refine CallI.of hso ?_)
        | (refine CallI.of hn1 ?_)
        | (refine CallI.of hn2 ?_)
        | (refine CallI.of hn3 ?_)
        | (refine CallI.of heq ?_)
        | (refine Cmp.tt (by simp; done) ?_)
        | (refine Need.mk (by simp [win]; done) ?_)
        | (refine Ret.mk rfl))
    · rw [if_neg hc] at heq
      obtain ⟨hb1, hb2⟩ := hback (by omega)
      generalize beg (nxY year w) (!w) = m2 at *
      generalize beg year w = m1 at *
      generalize beg (nxY y w) (!w) = n2 at *
      generalize beg y w = n1 at *
      have hz : (m1 + day - n1 - day).tmod 7 = 0 := Int.tmod_eq_zero_of_dvd (by omega)
      repeat' ((conv => whnf); first
        | (refine Br.tt ?_)
        | (refine Br.ff ?_)
        | (refine Need.mk (by first | omega | (simp; done) | (simp; omega)) ?_)
        | (refine Wr.keep (by omega) ?_)
        | (refine Cmp.tt (by first | omega | decide) ?_)
        | (refine Cmp.ff (by first | omega | decide) ?_)
        | (refine Rem.pos (by omega) ?_)
        | (refine Quo.pos (by omega) ?_)
        | (refine PickV.now rfl ?_)
        | (refine Pick.now rfl ?_)
        | (refine PickW.now (by first | omega | decide) rfl ?_)
        | (refine CallI.of (s_awake g) ?_)
        | (refine CallI.of hcs ?_)
        | (refine CallI.of hcr ?_)
        | (refine CallI.of hsp ?_)
        | (refine CallI.of hcp ?_)
        | (rw [hday]; refine CallI.of hso ?_)
        | (refine CallI.of hn1 ?_)
        | (refine CallI.of hn2 ?_)
        | (refine CallI.of hn3 ?_)
        | (refine CallI.of heq ?_)
        | (refine CallI.of hb1 ?_)
        | (refine CallI.of hb2 ?_)
        | (refine Rem.any (by omega) (fun r _ he => ?_); rw [hz] at he)
        | (refine Cmp.tt (by simp; done) ?_)
        | (refine Need.mk (by simp [win]; done) ?_)
        | (refine Ret.mk rfl))
end

theorem s_CalendarTiles {E : Oracle} (g : Good E) {xs : List D} (h : fitArgs Tryd.prog [57, 5, 3] xs) : Fc E n_law01_CalendarTiles (asV xs) (B true) := by
  obtain ⟨x, y, z, rfl, h1, h2, h3⟩ := args3 h
  obtain ⟨ds, rfl, _, _, rfl, h4, _, _, rfl, h5, rfl⟩ := arg_st Tryd.underlying57 h1
  obtain ⟨yr, rfl, _⟩ := fit_int h4
  obtain ⟨k, rfl, _⟩ := fit_s Tryd.underlying9 h5
  obtain ⟨off, rfl, hw⟩ := arg_i Tryd.underlying5 h2
  obtain ⟨year, rfl, _⟩ := arg_int h3
  by_cases hc : chkSea yr k = 0 ∧ rng year 2000 2272 = 0
  · obtain ⟨hy, w, rfl⟩ := chkSea_zero.1 hc.1
    have ho : 0 ≤ off ∧ off ≤ 255 := by
      simp only [Lit.wf, Bool.and_eq_true, decide_eq_true_eq] at hw
      exact hw
    exact w_Tiles_ok g yr w off year hy ho (rng_zero.1 hc.2)
  · exact w_Tiles_bad g yr k off year (by omega)
end Go.Proofs.YtlboecjgelnabaaDoor.Co

