
/-
  Seasons: what the reference's functions give, and the program's where they fail.
-/
import Derived.Test.YtlboecjgelnabaaGreatDoorSpSeb
import Derived.Test.YtlboecjgelnabaaGreatDoorSpDay
namespace Go.Proofs.YtlboecjgelnabaaGreatDoor.Co
open Go Go.Evl

theorem inM127 (w : Int) (h : 0 ≤ w ∧ w ≤ 6) : inM 127 w = true := by
  have hc : w = 0 ∨ w = 1 ∨ w = 2 ∨ w = 3 ∨ w = 4 ∨ w = 5 ∨ w = 6 := by omega
  rcases hc with rfl | rfl | rfl | rfl | rfl | rfl | rfl <;> decide

section
variable {E : Oracle} (g : Good E)
include g

theorem r_CheckSeason (y : Int) (k : List UInt8) : Fc E n_ref01_CheckSeason [Sn y k] (I (chkSea y k)) := by
  refine g.fn code_ref01_CheckSeason rfl ?_
  have r1 := @rng_zero y 2000 2272
  have r2 : rng y 2000 2272 = 0 ∨ rng y 2000 2272 = 3 := by unfold rng; split <;> simp
  by_cases h1 : rng y 2000 2272 = 0
  · by_cases e : k = [83]
    · subst e
      repeat' ((conv => whnf); first
        | (refine Br.tt ?_)
        | (refine Br.ff ?_)
        | (refine Need.mk (by first | omega | (simp; done) | (simp; omega)) ?_)
        | (refine Wr.keep (by omega) ?_)
        | (refine Cmp.tt (by first | omega | decide) ?_)
        | (refine Cmp.ff (by first | omega | decide) ?_)
        | (refine Rem.pos (by omega) ?_)
        | (refine Quo.pos (by omega) ?_)
        | (refine PickV.now rfl ?_)
        | (refine Pick.now rfl ?_)
        | (refine PickW.now (by first | omega | decide) rfl ?_)
        | (refine CallI.of (r_CheckRange g _ _ _) ?_)
        | (refine Ret.mk ?_))
      simp [chkSea, h1]
    · by_cases e2 : k = [87]
      · subst e2
        repeat' ((conv => whnf); first
          | (refine Br.tt ?_)
          | (refine Br.ff ?_)
          | (refine Need.mk (by first | omega | (simp; done) | (simp; omega)) ?_)
          | (refine Wr.keep (by omega) ?_)
          | (refine Cmp.tt (by first | omega | decide) ?_)
          | (refine Cmp.ff (by first | omega | decide) ?_)
          | (refine Rem.pos (by omega) ?_)
          | (refine Quo.pos (by omega) ?_)
          | (refine PickV.now rfl ?_)
          | (refine Pick.now rfl ?_)
          | (refine PickW.now (by first | omega | decide) rfl ?_)
          | (refine CallI.of (r_CheckRange g _ _ _) ?_)
          | (refine Ret.mk ?_))
        simp [chkSea, h1]
      · repeat' ((conv => whnf); first
        | (refine Br.tt ?_)
        | (refine Br.ff ?_)
        | (refine Need.mk (by first | omega | (simp; done) | (simp; omega)) ?_)
        | (refine Wr.keep (by omega) ?_)
        | (refine Cmp.tt (by first | omega | decide) ?_)
        | (refine Cmp.ff (by first | omega | decide) ?_)
        | (refine Rem.pos (by omega) ?_)
        | (refine Quo.pos (by omega) ?_)
        | (refine PickV.now rfl ?_)
        | (refine Pick.now rfl ?_)
        | (refine PickW.now (by first | omega | decide) rfl ?_)
          | (refine Cmp.ff e ?_)
          | (refine Cmp.ff e2 ?_)
          | (refine CallI.of (r_CheckRange g _ _ _) ?_)
          | (refine Ret.mk ?_))
        simp [chkSea, h1, e, e2]
  · repeat' ((conv => whnf); first
    | (refine Br.tt ?_)
    | (refine Br.ff ?_)
    | (refine Need.mk (by first | omega | (simp; done) | (simp; omega)) ?_)
    | (refine Wr.keep (by omega) ?_)
    | (refine Cmp.tt (by first | omega | decide) ?_)
    | (refine Cmp.ff (by first | omega | decide) ?_)
    | (refine Rem.pos (by omega) ?_)
    | (refine Quo.pos (by omega) ?_)
    | (refine PickV.now rfl ?_)
    | (refine Pick.now rfl ?_)
    | (refine PickW.now (by first | omega | decide) rfl ?_)
      | (refine CallI.of (r_CheckRange g _ _ _) ?_)
      | (refine Ret.mk ?_))
    simp [chkSea, h1]; omega

theorem r_Has127 (f t day : Int) (h : 0 ≤ day ∧ day ≤ 1000000) : Fc E n_ref01_Has [Per f t 127, I day] (B (decide (f ≤ day ∧ day ≤ t))) := by
  refine g.fn code_ref01_Has rfl ?_
  have hi := r_InMask g 127 ((day + 5) % 7) (by omega) (by omega)
  rw [inM127 _ (by omega)] at hi
  by_cases h1 : f ≤ day
  · by_cases h2 : day ≤ t
    all_goals repeat' ((conv => whnf); first
      | (refine Br.tt ?_)
      | (refine Br.ff ?_)
      | (refine Need.mk (by first | omega | (simp; done) | (simp; omega)) ?_)
      | (refine Wr.keep (by omega) ?_)
      | (refine Cmp.tt (by first | omega | decide) ?_)
      | (refine Cmp.ff (by first | omega | decide) ?_)
      | (refine Rem.pos (by omega) ?_)
      | (refine Quo.pos (by omega) ?_)
      | (refine PickV.now rfl ?_)
      | (refine Pick.now rfl ?_)
      | (refine PickW.now (by first | omega | decide) rfl ?_)
      | (refine CallI.of (r_Weekday g _ h) ?_)
      | (refine CallI.of hi ?_)
      | (refine Ret.mk ?_))
    all_goals simp [h1, h2]
  · repeat' ((conv => whnf); first
    | (refine Br.tt ?_)
    | (refine Br.ff ?_)
    | (refine Need.mk (by first | omega | (simp; done) | (simp; omega)) ?_)
    | (refine Wr.keep (by omega) ?_)
    | (refine Cmp.tt (by first | omega | decide) ?_)
    | (refine Cmp.ff (by first | omega | decide) ?_)
    | (refine Rem.pos (by omega) ?_)
    | (refine Quo.pos (by omega) ?_)
    | (refine PickV.now rfl ?_)
    | (refine Pick.now rfl ?_)
    | (refine PickW.now (by first | omega | decide) rfl ?_)
      | (refine CallI.of (r_Weekday g _ h) ?_)
      | (refine CallI.of hi ?_)
      | (refine Ret.mk ?_))
    simp [h1]

theorem r_Span (y : Int) (w : Bool) (hy : 2000 ≤ y ∧ y ≤ 2272) : Fc E n_ref01_Span [Sn y (kd w)] (Per (beg y w) (beg (nxY y w) (!w) - 1) 127) := by
  refine g.fn code_ref01_Span rfl ?_
  have h1 := beg_next y w (by omega)
  have s3 := r_LastSunday g y 3 (by omega) (by omega)
  have s10 := r_LastSunday g y 10 (by omega) (by omega)
  have t3 := r_LastSunday g (y + 1) 3 (by omega) (by omega)
  cases w
  all_goals simp only [beg, nxY, Bool.not_false, Bool.not_true] at h1 ⊢
  all_goals repeat' ((conv => whnf); first
    | (refine Br.tt ?_)
    | (refine Br.ff ?_)
    | (refine Need.mk (by first | omega | (simp; done) | (simp; omega)) ?_)
    | (refine Wr.keep (by omega) ?_)
    | (refine Cmp.tt (by first | omega | decide) ?_)
    | (refine Cmp.ff (by first | omega | decide) ?_)
    | (refine Rem.pos (by omega) ?_)
    | (refine Quo.pos (by omega) ?_)
    | (refine PickV.now rfl ?_)
    | (refine Pick.now rfl ?_)
    | (refine PickW.now (by first | omega | decide) rfl ?_)
    | (refine CallI.of s3 ?_)
    | (refine CallI.of s10 ?_)
    | (refine CallI.of t3 ?_)
    | (refine Need.mk (by simp [win]; done) ?_)
    | (refine Ret.mk rfl))

theorem r_Next_ok (y : Int) (w : Bool) (hy : 2000 ≤ y ∧ y ≤ 2272) (hn : ¬ (y = 2272 ∧ w = true)) : Fc E n_ref01_Next [Sn y (kd w)] (.tup [Sn (nxY y w) (kd (!w)), B true]) := by
  refine g.fn code_ref01_Next rfl ?_
  cases w
  · repeat' ((conv => whnf); first
    | (refine Br.tt ?_)
    | (refine Br.ff ?_)
    | (refine Need.mk (by first | omega | (simp; done) | (simp; omega)) ?_)
    | (refine Wr.keep (by omega) ?_)
    | (refine Cmp.tt (by first | omega | decide) ?_)
    | (refine Cmp.ff (by first | omega | decide) ?_)
    | (refine Rem.pos (by omega) ?_)
    | (refine Quo.pos (by omega) ?_)
    | (refine PickV.now rfl ?_)
    | (refine Pick.now rfl ?_)
    | (refine PickW.now (by first | omega | decide) rfl ?_)
      | (refine Need.mk (by simp [win]; done) ?_)
      | (refine Ret.mk rfl))
  · have hn : ¬ y = 2272 := by simpa using hn
    repeat' ((conv => whnf); first
      | (refine Br.tt ?_)
      | (refine Br.ff ?_)
      | (refine Need.mk (by first | omega | (simp; done) | (simp; omega)) ?_)
      | (refine Wr.keep (by omega) ?_)
      | (refine Cmp.tt (by first | omega | decide) ?_)
      | (refine Cmp.ff (by first | omega | decide) ?_)
      | (refine Rem.pos (by omega) ?_)
      | (refine Quo.pos (by omega) ?_)
      | (refine PickV.now rfl ?_)
      | (refine Pick.now rfl ?_)
      | (refine PickW.now (by first | omega | decide) rfl ?_)
      | (refine Need.mk (by simp [win]; done) ?_)
      | (refine Ret.mk rfl))
theorem r_Next_last : Fc E n_ref01_Next [Sn 2272 (kd true)] (.tup [Sn 0 [], B false]) := by
  refine g.fn code_ref01_Next rfl ?_
  repeat' ((conv => whnf); first
    | (refine Br.tt ?_)
    | (refine Br.ff ?_)
    | (refine Need.mk (by first | omega | (simp; done) | (simp; omega)) ?_)
    | (refine Wr.keep (by omega) ?_)
    | (refine Cmp.tt (by first | omega | decide) ?_)
    | (refine Cmp.ff (by first | omega | decide) ?_)
    | (refine Rem.pos (by omega) ?_)
    | (refine Quo.pos (by omega) ?_)
    | (refine PickV.now rfl ?_)
    | (refine Pick.now rfl ?_)
    | (refine PickW.now (by first | omega | decide) rfl ?_)
    | (refine Need.mk (by simp [win]; done) ?_)
    | (refine Ret.mk rfl))
theorem r_Prev_W (y : Int) (_ : 2000 ≤ y ∧ y ≤ 2272) : Fc E n_ref01_Previous [Sn y (kd true)] (.tup [Sn y (kd false), B true]) := by
  refine g.fn code_ref01_Previous rfl ?_
  repeat' ((conv => whnf); first
    | (refine Br.tt ?_)
    | (refine Br.ff ?_)
    | (refine Need.mk (by first | omega | (simp; done) | (simp; omega)) ?_)
    | (refine Wr.keep (by omega) ?_)
    | (refine Cmp.tt (by first | omega | decide) ?_)
    | (refine Cmp.ff (by first | omega | decide) ?_)
    | (refine Rem.pos (by omega) ?_)
    | (refine Quo.pos (by omega) ?_)
    | (refine PickV.now rfl ?_)
    | (refine Pick.now rfl ?_)
    | (refine PickW.now (by first | omega | decide) rfl ?_)
    | (refine Need.mk (by simp [win]; done) ?_)
    | (refine Ret.mk rfl))
theorem r_Prev_S (y : Int) (hy : 2001 ≤ y ∧ y ≤ 2272) : Fc E n_ref01_Previous [Sn y (kd false)] (.tup [Sn (y - 1) (kd true), B true]) := by
  refine g.fn code_ref01_Previous rfl ?_
  repeat' ((conv => whnf); first
    | (refine Br.tt ?_)
    | (refine Br.ff ?_)
    | (refine Need.mk (by first | omega | (simp; done) | (simp; omega)) ?_)
    | (refine Wr.keep (by omega) ?_)
    | (refine Cmp.tt (by first | omega | decide) ?_)
    | (refine Cmp.ff (by first | omega | decide) ?_)
    | (refine Rem.pos (by omega) ?_)
    | (refine Quo.pos (by omega) ?_)
    | (refine PickV.now rfl ?_)
    | (refine Pick.now rfl ?_)
    | (refine PickW.now (by first | omega | decide) rfl ?_)
    | (refine Need.mk (by simp [win]; done) ?_)
    | (refine Ret.mk rfl))
theorem r_Prev_first : Fc E n_ref01_Previous [Sn 2000 (kd false)] (.tup [Sn 0 [], B false]) := by
  refine g.fn code_ref01_Previous rfl ?_
  repeat' ((conv => whnf); first
    | (refine Br.tt ?_)
    | (refine Br.ff ?_)
    | (refine Need.mk (by first | omega | (simp; done) | (simp; omega)) ?_)
    | (refine Wr.keep (by omega) ?_)
    | (refine Cmp.tt (by first | omega | decide) ?_)
    | (refine Cmp.ff (by first | omega | decide) ?_)
    | (refine Rem.pos (by omega) ?_)
    | (refine Quo.pos (by omega) ?_)
    | (refine PickV.now rfl ?_)
    | (refine Pick.now rfl ?_)
    | (refine PickW.now (by first | omega | decide) rfl ?_)
    | (refine Need.mk (by simp [win]; done) ?_)
    | (refine Ret.mk rfl))

theorem s_Prev_first : Fc E n_calendar_Previous [Sn 2000 (kd false)] (.tup [Sn 0 [], I 7]) := by
  refine g.fn code_calendar_Previous rfl ?_
  have hs := s_CheckSeason g 2000 (kd false)
  rw [chkSea_zero.2 ⟨by omega, false, rfl⟩] at hs
  repeat' ((conv => whnf); first
    | (refine Br.tt ?_)
    | (refine Br.ff ?_)
    | (refine Need.mk (by first | omega | (simp; done) | (simp; omega)) ?_)
    | (refine Wr.keep (by omega) ?_)
    | (refine Cmp.tt (by first | omega | decide) ?_)
    | (refine Cmp.ff (by first | omega | decide) ?_)
    | (refine Rem.pos (by omega) ?_)
    | (refine Quo.pos (by omega) ?_)
    | (refine PickV.now rfl ?_)
    | (refine Pick.now rfl ?_)
    | (refine PickW.now (by first | omega | decide) rfl ?_)
    | (refine CallI.of hs ?_)
    | (refine CallI.of (s_earliest g) ?_)
    | (refine Cmp.tt (by simp) ?_)
    | (refine CallI.of (s_when g _ _) ?_)
    | (refine CallI.of (s_first2 g _ _) ?_)
    | (refine Need.mk (by simp [win]; done) ?_)
    | (refine Ret.mk rfl))

theorem s_Next_bad (y : Int) (k : List UInt8) (h : chkSea y k ≠ 0) : Fc E n_calendar_Next [Sn y k] (.tup [Sn 0 [], I (chkSea y k)]) := by
  refine g.fn code_calendar_Next rfl ?_
  have hs := s_CheckSeason g y k
  have hf : ∀ x, firstI [chkSea y k, x] = chkSea y k := fun x => by simp [firstI, h]
  by_cases e : y = 2272 ∧ k = kd true
  · exact absurd (chkSea_zero.2 ⟨by omega, true, e.2⟩) h
  · repeat' ((conv => whnf); first
    | (refine Br.tt ?_)
    | (refine Br.ff ?_)
    | (refine Need.mk (by first | omega | (simp; done) | (simp; omega)) ?_)
    | (refine Wr.keep (by omega) ?_)
    | (refine Cmp.tt (by first | omega | decide) ?_)
    | (refine Cmp.ff (by first | omega | decide) ?_)
    | (refine Rem.pos (by omega) ?_)
    | (refine Quo.pos (by omega) ?_)
    | (refine PickV.now rfl ?_)
    | (refine Pick.now rfl ?_)
    | (refine PickW.now (by first | omega | decide) rfl ?_)
      | (refine CallI.of hs ?_)
      | (refine CallI.of (s_latest g) ?_)
      | (refine Cmp.ff (by simpa using e) ?_)
      | (refine CallI.of (s_when g _ _) ?_)
      | (refine CallI.of (s_first2 g _ _) ?_)
      | (rw [hf]; refine Cmp.ff h ?_)
      | (refine Need.mk (by simp [win]; done) ?_)
      | (refine Ret.mk ?_))
    rfl
theorem s_Prev_bad (y : Int) (k : List UInt8) (h : chkSea y k ≠ 0) : Fc E n_calendar_Previous [Sn y k] (.tup [Sn 0 [], I (chkSea y k)]) := by
  refine g.fn code_calendar_Previous rfl ?_
  have hs := s_CheckSeason g y k
  have hf : ∀ x, firstI [chkSea y k, x] = chkSea y k := fun x => by simp [firstI, h]
  by_cases e : y = 2000 ∧ k = kd false
  · exact absurd (chkSea_zero.2 ⟨by omega, false, e.2⟩) h
  · repeat' ((conv => whnf); first
    | (refine Br.tt ?_)
    | (refine Br.ff ?_)
    | (refine Need.mk (by first | omega | (simp; done) | (simp; omega)) ?_)
    | (refine Wr.keep (by omega) ?_)
    | (refine Cmp.tt (by first | omega | decide) ?_)
    | (refine Cmp.ff (by first | omega | decide) ?_)
    | (refine Rem.pos (by omega) ?_)
    | (refine Quo.pos (by omega) ?_)
    | (refine PickV.now rfl ?_)
    | (refine Pick.now rfl ?_)
    | (refine PickW.now (by first | omega | decide) rfl ?_)
      | (refine CallI.of hs ?_)
      | (refine CallI.of (s_earliest g) ?_)
      | (refine Cmp.ff (by simpa using e) ?_)
      | (refine CallI.of (s_when g _ _) ?_)
      | (refine CallI.of (s_first2 g _ _) ?_)
      | (rw [hf]; refine Cmp.ff h ?_)
      | (refine Need.mk (by simp [win]; done) ?_)
      | (refine Ret.mk ?_))
    rfl

theorem s_Equiv_bad {day y1 e1 : Int} {k1 : List UInt8} (y : Int) (k : List UInt8) (hso : Fc E n_calendar_SeasonOf [I day] (.tup [Sn y1 k1, I e1])) (h : firstI [e1, chkSea y k, if k1 = k then 0 else 13] ≠ 0) :
    Fc E n_calendar_Equivalent [I day, Sn y k] (.tup [I 0, I (firstI [e1, chkSea y k, if k1 = k then 0 else 13])]) := by
  refine g.fn code_calendar_Equivalent rfl ?_
  have hs := s_CheckSeason g y k
  by_cases e : k1 = k
  · rw [if_pos e] at h ⊢
    repeat' ((conv => whnf); first
      | (refine Br.tt ?_)
      | (refine Br.ff ?_)
      | (refine Need.mk (by first | omega | (simp; done) | (simp; omega)) ?_)
      | (refine Wr.keep (by omega) ?_)
      | (refine Cmp.tt (by first | omega | decide) ?_)
      | (refine Cmp.ff (by first | omega | decide) ?_)
      | (refine Rem.pos (by omega) ?_)
      | (refine Quo.pos (by omega) ?_)
      | (refine PickV.now rfl ?_)
      | (refine Pick.now rfl ?_)
      | (refine PickW.now (by first | omega | decide) rfl ?_)
      | (refine CallI.of hs ?_)
      | (refine CallI.of hso ?_)
      | (refine Cmp.tt e ?_)
      | (refine CallI.of (s_when g _ _) ?_)
      | (refine CallI.of (s_first3 g _ _ _) ?_)
      | (refine Cmp.ff h ?_)
      | (refine Ret.mk rfl))
  · rw [if_neg e] at h ⊢
    repeat' ((conv => whnf); first
      | (refine Br.tt ?_)
      | (refine Br.ff ?_)
      | (refine Need.mk (by first | omega | (simp; done) | (simp; omega)) ?_)
      | (refine Wr.keep (by omega) ?_)
      | (refine Cmp.tt (by first | omega | decide) ?_)
      | (refine Cmp.ff (by first | omega | decide) ?_)
      | (refine Rem.pos (by omega) ?_)
      | (refine Quo.pos (by omega) ?_)
      | (refine PickV.now rfl ?_)
      | (refine Pick.now rfl ?_)
      | (refine PickW.now (by first | omega | decide) rfl ?_)
      | (refine CallI.of hs ?_)
      | (refine CallI.of hso ?_)
      | (refine Cmp.ff e ?_)
      | (refine CallI.of (s_when g _ _) ?_)
      | (refine CallI.of (s_first3 g _ _ _) ?_)
      | (refine Cmp.ff h ?_)
      | (refine Ret.mk rfl))

theorem has_in {day y : Int} {w : Bool} (h0 : 0 ≤ day ∧ day ≤ 99999) (h : InSea day y w) : Fc E n_ref01_Has [Per (beg y w) (beg (nxY y w) (!w) - 1) 127, I day] (B true) := by
  have := r_Has127 g (beg y w) (beg (nxY y w) (!w) - 1) day (by omega)
  rwa [decide_eq_true (by have := h.lo; have := h.hi; omega)] at this
theorem has_out {day y : Int} {w : Bool} (h0 : 0 ≤ day ∧ day ≤ 99999) (hy : 2000 ≤ y ∧ y ≤ 2272) (h : ¬ InSea day y w) : Fc E n_ref01_Has [Per (beg y w) (beg (nxY y w) (!w) - 1) 127, I day] (B false) := by
  have := r_Has127 g (beg y w) (beg (nxY y w) (!w) - 1) day (by omega)
  rwa [decide_eq_false (fun hc => h ⟨hy, hc.1, by omega⟩)] at this

theorem r_SeasonOf_in {day y : Int} {w : Bool} (h0 : 0 ≤ day ∧ day ≤ 99999) (h : InSea day y w) : Fc E n_ref01_SeasonOf [I day] (.tup [Sn y (kd w), B true]) := by
  refine g.fn code_ref01_SeasonOf rfl ?_
  obtain ⟨Y, m, d, hd⟩ := exists_date day (by omega)
  have hcase := h.date hd
  have hY := hd.hy
  have hy := h.hy
  have hYy : Y = y ∨ Y = y + 1 := by rcases hcase with ⟨_, e, _⟩ | ⟨_, e, _⟩ | ⟨_, e, _⟩ <;> omega
  repeat' ((conv => whnf); first
    | (refine Br.tt ?_)
    | (refine Br.ff ?_)
    | (refine Need.mk (by first | omega | (simp; done) | (simp; omega)) ?_)
    | (refine Wr.keep (by omega) ?_)
    | (refine Cmp.tt (by first | omega | decide) ?_)
    | (refine Cmp.ff (by first | omega | decide) ?_)
    | (refine Rem.pos (by omega) ?_)
    | (refine Quo.pos (by omega) ?_)
    | (refine PickV.now rfl ?_)
    | (refine Pick.now rfl ?_)
    | (refine PickW.now (by first | omega | decide) rfl ?_)
    | (refine CallI.of (r_Date g hd) ?_))
  generalize ha : (if Y - 1 > 2000 then Y - 1 else 2000) = a
  have ha2 : a ≤ y ∧ 2000 ≤ a := by split at ha <;> omega
  refine LoopW.to (LoopW.upP g (fun k => [(0, I day), (2, .ptr ⟨0, 2, 0⟩ 0 0), (4, I Y), (5, I (a + k))]) (fun _ => [(⟨0, 2, 0⟩, .cells ty_turnroundref01_Season [I 0, S []])]) (fun k => a + (k : Int) ≤ y) (y - a).toNat (fun k hk hp ih => ?_) 0 (Nat.zero_le _) (by simpa using ha2.1)) (by simp; exact ha.symm) rfl
  by_cases hlt : k < (y - a).toNat
  · have hs1 := r_Span g (a + k) false (by omega)
    have hs2 := r_Span g (a + k) true (by omega)
    have hn1 := has_out g h0 (y := a + k) (w := false) (by omega) (fun hc => by have := hc.uniq h0.2 h; omega)
    have hn2 := has_out g h0 (y := a + k) (w := true) (by omega) (fun hc => by have := hc.uniq h0.2 h; omega)
    repeat' ((conv => whnf); first
      | (refine Br.tt ?_)
      | (refine Br.ff ?_)
      | (refine Need.mk (by first | omega | (simp; done) | (simp; omega)) ?_)
      | (refine Wr.keep (by omega) ?_)
      | (refine Cmp.tt (by first | omega | decide) ?_)
      | (refine Cmp.ff (by first | omega | decide) ?_)
      | (refine Rem.pos (by omega) ?_)
      | (refine Quo.pos (by omega) ?_)
      | (refine PickV.now rfl ?_)
      | (refine Pick.now rfl ?_)
      | (refine PickW.now (by first | omega | decide) rfl ?_)
      | (refine Cmp.tt (by split <;> omega) ?_)
      | (refine Bounds.mk (by decide) ?_)
      | (refine CallI.of hs1 ?_)
      | (refine CallI.of hs2 ?_)
      | (refine CallI.of hn1 ?_)
      | (refine CallI.of hn2 ?_)
      | (refine LoopW.to (ih hlt (by omega)) ?_ rfl)
      | (refine LoopW.step g.lim ?_))
    simp; omega
  · have hk' : a + (k : Int) = y := by omega
    rw [hk']
    have hs1 := r_Span g y false (by omega)
    have hs2 := r_Span g y true (by omega)
    have hin := has_in g h0 h
    cases w
    · repeat' ((conv => whnf); first
      | (refine Br.tt ?_)
      | (refine Br.ff ?_)
      | (refine Need.mk (by first | omega | (simp; done) | (simp; omega)) ?_)
      | (refine Wr.keep (by omega) ?_)
      | (refine Cmp.tt (by first | omega | decide) ?_)
      | (refine Cmp.ff (by first | omega | decide) ?_)
      | (refine Rem.pos (by omega) ?_)
      | (refine Quo.pos (by omega) ?_)
      | (refine PickV.now rfl ?_)
      | (refine Pick.now rfl ?_)
      | (refine PickW.now (by first | omega | decide) rfl ?_)
        | (refine Cmp.tt (by split <;> omega) ?_)
        | (refine Bounds.mk (by decide) ?_)
        | (refine CallI.of hs1 ?_)
        | (refine CallI.of hin ?_)
        | (refine Ret.mk rfl)
        | (refine LoopW.step g.lim ?_))
    · have hn1 := has_out g h0 (y := y) (w := false) (by omega) (fun hc => by have := hc.uniq h0.2 h; simp at this)
      repeat' ((conv => whnf); first
        | (refine Br.tt ?_)
        | (refine Br.ff ?_)
        | (refine Need.mk (by first | omega | (simp; done) | (simp; omega)) ?_)
        | (refine Wr.keep (by omega) ?_)
        | (refine Cmp.tt (by first | omega | decide) ?_)
        | (refine Cmp.ff (by first | omega | decide) ?_)
        | (refine Rem.pos (by omega) ?_)
        | (refine Quo.pos (by omega) ?_)
        | (refine PickV.now rfl ?_)
        | (refine Pick.now rfl ?_)
        | (refine PickW.now (by first | omega | decide) rfl ?_)
        | (refine Cmp.tt (by split <;> omega) ?_)
        | (refine Bounds.mk (by decide) ?_)
        | (refine CallI.of hs1 ?_)
        | (refine CallI.of hs2 ?_)
        | (refine CallI.of hn1 ?_)
        | (refine CallI.of hin ?_)
        | (refine Ret.mk rfl)
        | (refine LoopW.step g.lim ?_))

theorem r_SeasonOf_out (day : Int) (h0 : 0 ≤ day ∧ day ≤ 99999) (ho : day < beg 2000 false ∨ beg 2273 false ≤ day) : Fc E n_ref01_SeasonOf [I day] (.tup [Sn 0 [], B false]) := by
  refine g.fn code_ref01_SeasonOf rfl ?_
  have hno : ∀ y w, ¬ InSea day y w := fun y w hc => by have := hc.ge; omega
  obtain ⟨Y, m, d, hd⟩ := exists_date day (by omega)
  have hY := hd.hy
  repeat' ((conv => whnf); first
    | (refine Br.tt ?_)
    | (refine Br.ff ?_)
    | (refine Need.mk (by first | omega | (simp; done) | (simp; omega)) ?_)
    | (refine Wr.keep (by omega) ?_)
    | (refine Cmp.tt (by first | omega | decide) ?_)
    | (refine Cmp.ff (by first | omega | decide) ?_)
    | (refine Rem.pos (by omega) ?_)
    | (refine Quo.pos (by omega) ?_)
    | (refine PickV.now rfl ?_)
    | (refine Pick.now rfl ?_)
    | (refine PickW.now (by first | omega | decide) rfl ?_)
    | (refine CallI.of (r_Date g hd) ?_))
  generalize ha : (if Y - 1 > 2000 then Y - 1 else 2000) = a
  have ha2 : 2000 ≤ a := by split at ha <;> omega
  refine LoopW.to (LoopW.up g (fun k => [(0, I day), (2, .ptr ⟨0, 2, 0⟩ 0 0), (4, I Y), (5, I (a + k))]) (fun _ => [(⟨0, 2, 0⟩, .cells ty_turnroundref01_Season [I 0, S []])]) ((if Y < 2272 then Y else 2272) - a + 1).toNat (fun k hk ih => ?_) 0 (Nat.zero_le _)) (by simp; exact ha.symm) rfl
  by_cases hlt : k < ((if Y < 2272 then Y else 2272) - a + 1).toNat
  · have hb : a + (k : Int) ≤ 2272 ∧ a + (k : Int) ≤ Y := by split at hlt <;> omega
    have hs1 := r_Span g (a + k) false (by omega)
    have hs2 := r_Span g (a + k) true (by omega)
    have hn1 := has_out g h0 (y := a + k) (w := false) (by omega) (hno _ _)
    have hn2 := has_out g h0 (y := a + k) (w := true) (by omega) (hno _ _)
    repeat' ((conv => whnf); first
      | (refine Br.tt ?_)
      | (refine Br.ff ?_)
      | (refine Need.mk (by first | omega | (simp; done) | (simp; omega)) ?_)
      | (refine Wr.keep (by omega) ?_)
      | (refine Cmp.tt (by first | omega | decide) ?_)
      | (refine Cmp.ff (by first | omega | decide) ?_)
      | (refine Rem.pos (by omega) ?_)
      | (refine Quo.pos (by omega) ?_)
      | (refine PickV.now rfl ?_)
      | (refine Pick.now rfl ?_)
      | (refine PickW.now (by first | omega | decide) rfl ?_)
      | (refine Cmp.tt (by split <;> omega) ?_)
      | (refine Bounds.mk (by decide) ?_)
      | (refine CallI.of hs1 ?_)
      | (refine CallI.of hs2 ?_)
      | (refine CallI.of hn1 ?_)
      | (refine CallI.of hn2 ?_)
      | (refine LoopW.to (ih hlt) ?_ rfl)
      | (refine LoopW.step g.lim ?_))
    simp; omega
  · have hb : ¬ a + (k : Int) ≤ (if Y < 2272 then Y else 2272) := by split at hlt <;> split <;> omega
    have hb' : a + (k : Int) ≤ 3000 := by split at ha <;> split at hk <;> omega
    repeat' ((conv => whnf); first
      | (refine Br.tt ?_)
      | (refine Br.ff ?_)
      | (refine Need.mk (by first | omega | (simp; done) | (simp; omega)) ?_)
      | (refine Wr.keep (by omega) ?_)
      | (refine Cmp.tt (by first | omega | decide) ?_)
      | (refine Cmp.ff (by first | omega | decide) ?_)
      | (refine Rem.pos (by omega) ?_)
      | (refine Quo.pos (by omega) ?_)
      | (refine PickV.now rfl ?_)
      | (refine Pick.now rfl ?_)
      | (refine PickW.now (by first | omega | decide) rfl ?_)
      | (refine Cmp.ff hb ?_)
      | (refine Ret.mk rfl))
end
end Go.Proofs.YtlboecjgelnabaaGreatDoor.Co

