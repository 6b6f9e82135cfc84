
/-
  The season of a day; the next one, the one before; equivalent days.
-/
import Derived.Test.YtlboecjgelnabaaGreatDoorSpSea
namespace Go.Proofs.YtlboecjgelnabaaGreatDoor.Co
open Go Go.Evl

/-- A day of a season. -/
structure InSea (day y : Int) (w : Bool) : Prop where
  hy : 2000 ≤ y ∧ y ≤ 2272
  lo : beg y w ≤ day
  hi : day < beg (nxY y w) (!w)

theorem year_is {day y Y m d : Int} (h : IsDate day Y m d) (hy : 2000 ≤ y ∧ y ≤ 2273) (h1 : daysY (y - 2000).toNat ≤ day) (h2 : day < daysY (y - 2000).toNat + lenY y) : Y = y := by
  have hY := h.year
  have hb := h.hy
  have a1 : ¬ Y < y := fun hlt => by
    have h3 : daysY ((Y - 2000).toNat + 1) ≤ daysY (y - 2000).toNat := daysY_mono (by omega)
    simp only [daysY] at h3
    rw [show (2000 : Int) + ((Y - 2000).toNat : Nat) = Y by omega] at h3
    omega
  have a2 : ¬ y < Y := fun hlt => by
    have h3 : daysY ((y - 2000).toNat + 1) ≤ daysY (Y - 2000).toNat := daysY_mono (by omega)
    simp only [daysY] at h3
    rw [show (2000 : Int) + ((y - 2000).toNat : Nat) = y by omega] at h3
    omega
  omega

/-- Where the Sundays lie in their year. -/
theorem sundays (y : Int) (hy : 2000 ≤ y) : daysY (y - 2000).toNat + 80 ≤ sunM y 3 ∧ sunM y 3 + 200 ≤ sunM y 10 ∧ sunM y 10 + 50 ≤ daysY (y - 2000).toNat + lenY y := by
  have h1 := march y hy
  have h2 := october y hy
  have h3 := sun_le (dayN y 3 31)
  have h4 := sun_le (dayN y 10 31)
  have h5 := lenY_le y
  unfold sunM
  split at h1 <;> simp_all <;> omega

theorem daysY_next (y : Int) (hy : 2000 ≤ y) : daysY (y + 1 - 2000).toNat = daysY (y - 2000).toNat + lenY y := by
  rw [show (y + 1 - 2000).toNat = (y - 2000).toNat + 1 by omega]
  simp only [daysY]
  rw [show (2000 : Int) + ((y - 2000).toNat : Nat) = y by omega]

theorem InSea.date {day y : Int} {w : Bool} (h : InSea day y w) {Y m d : Int} (hd : IsDate day Y m d) :
    (w = false ∧ Y = y ∧ sunM Y 3 ≤ day ∧ day < sunM Y 10) ∨ (w = true ∧ Y = y ∧ sunM Y 3 ≤ day ∧ sunM Y 10 ≤ day) ∨ (w = true ∧ Y = y + 1 ∧ day < sunM Y 3) := by
  have a := sundays y h.hy.1
  have b := sundays (y + 1) (by have := h.hy; omega)
  have c := daysY_next y h.hy.1
  have l1 := h.lo
  have l2 := h.hi
  have hy := h.hy
  have e := lenY_le y
  have e' := lenY_le (y + 1)
  cases w
  · simp only [beg, nxY, Bool.not_false] at l1 l2
    obtain rfl := year_is (y := y) hd (by omega) (by omega) (by omega)
    exact .inl ⟨rfl, rfl, l1, l2⟩
  · simp only [beg, nxY, Bool.not_true] at l1 l2
    by_cases hc : day < daysY (y - 2000).toNat + lenY y
    · obtain rfl := year_is hd (by omega) (by omega) hc
      exact .inr (.inl ⟨rfl, rfl, by omega, l1⟩)
    · obtain rfl := year_is (y := y + 1) hd (by omega) (by omega) (by omega)
      exact .inr (.inr ⟨rfl, rfl, l2⟩)

theorem exists_season {day : Int} (h1 : beg 2000 false ≤ day) (h2 : day < beg 2273 false) (h3 : day ≤ 99999) : ∃ y w, InSea day y w := by
  simp only [beg] at h1 h2
  have a0 := sundays 2000 (by omega)
  have hz := daysY_le (2000 - 2000 : Int).toNat
  obtain ⟨Y, m, d, hd⟩ := exists_date day ⟨by omega, by omega⟩
  have hy := hd.hy
  have hyr := hd.year
  have a := sundays Y hy.1
  by_cases c1 : day < sunM Y 3
  · have hne : Y ≠ 2000 := fun e => by subst e; omega
    have b := sundays (Y - 1) (by omega)
    have c := daysY_next (Y - 1) (by omega)
    rw [show Y - 1 + 1 = Y by omega] at c
    exact ⟨Y - 1, true, by omega, by simp only [beg]; omega, by simp only [beg, nxY, Bool.not_true]; rw [show Y - 1 + 1 = Y by omega]; exact c1⟩
  · have hne : Y ≠ 2273 := fun e => by subst e; omega
    by_cases c2 : day < sunM Y 10
    · exact ⟨Y, false, by omega, by simp only [beg]; omega, c2⟩
    · have b := sundays (Y + 1) (by omega)
      have c := daysY_next Y (by omega)
      exact ⟨Y, true, by omega, by simp only [beg]; omega, by simp only [beg, nxY, Bool.not_true]; omega⟩

theorem InSea.ge {day y : Int} {w : Bool} (h : InSea day y w) : beg 2000 false ≤ day ∧ day < beg 2273 false := by
  have mono : ∀ n : Nat, ∀ y : Int, 2000 ≤ y → y + n ≤ 2273 → sunM y 3 ≤ sunM (y + n) 3 := by
    intro n
    induction n with
    | zero => intro y _ _; simp
    | succ n ih =>
      intro y h1 h2
      have a := ih y h1 (by omega)
      have b := sundays (y + n) (by omega)
      have c := sundays (y + n + 1) (by omega)
      have d := daysY_next (y + n) (by omega)
      rw [show y + ((n + 1 : Nat) : Int) = y + n + 1 by omega]
      omega
  have hy := h.hy
  have m1 := mono (y - 2000).toNat 2000 (by omega) (by omega)
  rw [show 2000 + (((y - 2000).toNat : Nat) : Int) = y by omega] at m1
  have m2 := mono (2273 - (y + 1)).toNat (y + 1) (by omega) (by omega)
  rw [show y + 1 + (((2273 - (y + 1)).toNat : Nat) : Int) = 2273 by omega] at m2
  have a := sundays y h.hy.1
  have b := sundays (y + 1) (by omega)
  have c := daysY_next y h.hy.1
  have l1 := h.lo
  have l2 := h.hi
  cases w
  all_goals simp only [beg, nxY, Bool.not_false, Bool.not_true] at l1 l2 ⊢
  all_goals omega

theorem InSea.uniq {day y y' : Int} {w w' : Bool} (h3 : day ≤ 99999) (h : InSea day y w) (h' : InSea day y' w') : y = y' ∧ w = w' := by
  have hb := h.ge
  have hr := beg_next 2000 false (by omega)
  obtain ⟨Y, m, d, hd⟩ := exists_date day ⟨by omega, by omega⟩
  rcases h.date hd with ⟨rfl, e1, e2, e3⟩ | ⟨rfl, e1, e2, e3⟩ | ⟨rfl, e1, e2⟩ <;> rcases h'.date hd with ⟨rfl, f1, f2, f3⟩ | ⟨rfl, f1, f2, f3⟩ | ⟨rfl, f1, f2⟩
  all_goals have := sundays Y hd.hy.1
  all_goals first
    | exact ⟨by omega, rfl⟩
    | (exfalso; omega)

section
variable {E : Oracle} (g : Good E)
include g

theorem s_earliest : Fc E n_calendar_earliest [] (Sn 2000 (kd false)) := by
  refine g.fn code_calendar_earliest rfl ?_
  repeat' ((conv => whnf); first
    | (refine Br.tt ?_)
    | (refine Br.ff ?_)
    | (refine Need.mk (by first | omega | (simp; done) | (simp; omega)) ?_)
    | (refine Wr.keep (by omega) ?_)
    | (refine Cmp.tt (by first | omega | decide) ?_)
    | (refine Cmp.ff (by first | omega | decide) ?_)
    | (refine Rem.pos (by omega) ?_)
    | (refine Quo.pos (by omega) ?_)
    | (refine PickV.now rfl ?_)
    | (refine Pick.now rfl ?_)
    | (refine PickW.now (by first | omega | decide) rfl ?_)
    | (refine Ret.mk rfl))
theorem s_latest : Fc E n_calendar_latest [] (Sn 2272 (kd true)) := by
  refine g.fn code_calendar_latest rfl ?_
  repeat' ((conv => whnf); first
    | (refine Br.tt ?_)
    | (refine Br.ff ?_)
    | (refine Need.mk (by first | omega | (simp; done) | (simp; omega)) ?_)
    | (refine Wr.keep (by omega) ?_)
    | (refine Cmp.tt (by first | omega | decide) ?_)
    | (refine Cmp.ff (by first | omega | decide) ?_)
    | (refine Rem.pos (by omega) ?_)
    | (refine Quo.pos (by omega) ?_)
    | (refine PickV.now rfl ?_)
    | (refine Pick.now rfl ?_)
    | (refine PickW.now (by first | omega | decide) rfl ?_)
    | (refine Ret.mk rfl))

theorem s_SeasonOf_bad (day : Int) (h : rng day 0 99999 ≠ 0) : Fc E n_calendar_SeasonOf [I day] (.tup [Sn 0 [], I (rng day 0 99999)]) := by
  refine g.fn code_calendar_SeasonOf rfl ?_
  repeat' ((conv => whnf); first
    | (refine Br.tt ?_)
    | (refine Br.ff ?_)
    | (refine Need.mk (by first | omega | (simp; done) | (simp; omega)) ?_)
    | (refine Wr.keep (by omega) ?_)
    | (refine Cmp.tt (by first | omega | decide) ?_)
    | (refine Cmp.ff (by first | omega | decide) ?_)
    | (refine Rem.pos (by omega) ?_)
    | (refine Quo.pos (by omega) ?_)
    | (refine PickV.now rfl ?_)
    | (refine Pick.now rfl ?_)
    | (refine PickW.now (by first | omega | decide) rfl ?_)
    | (refine CallI.of (s_checkDay g _) ?_)
    | (refine Ret.mk rfl))

theorem s_SeasonOf_out (day : Int) (h : 0 ≤ day ∧ day ≤ 99999) (ho : day < beg 2000 false ∨ beg 2273 false ≤ day) : Fc E n_calendar_SeasonOf [I day] (.tup [Sn 0 [], I 30]) := by
  refine g.fn code_calendar_SeasonOf rfl ?_
  have hc := s_checkDay g day
  rw [(@rng_zero day 0 99999).2 h] at hc
  have h1 := s_begin g 2000 false (by omega)
  have h2 := s_begin g 2273 false (by omega)
  generalize beg 2000 false = b1 at *
  generalize beg 2273 false = b2 at *
  rcases Classical.em (day < b1) with h3 | h3
  all_goals repeat' ((conv => whnf); first
    | (refine Br.tt ?_)
    | (refine Br.ff ?_)
    | (refine Need.mk (by first | omega | (simp; done) | (simp; omega)) ?_)
    | (refine Wr.keep (by omega) ?_)
    | (refine Cmp.tt (by first | omega | decide) ?_)
    | (refine Cmp.ff (by first | omega | decide) ?_)
    | (refine Rem.pos (by omega) ?_)
    | (refine Quo.pos (by omega) ?_)
    | (refine PickV.now rfl ?_)
    | (refine Pick.now rfl ?_)
    | (refine PickW.now (by first | omega | decide) rfl ?_)
    | (refine CallI.of hc ?_)
    | (refine CallI.of (s_earliest g) ?_)
    | (refine CallI.of (s_latest g) ?_)
    | (refine CallI.of h1 ?_)
    | (refine CallI.of h2 ?_)
    | (refine CallI.of (s_next g 2272 true (by omega)) ?_)
    | (refine Ret.mk rfl))

theorem s_SeasonOf_in {day y : Int} {w : Bool} (h0 : day ≤ 99999) (h : InSea day y w) : Fc E n_calendar_SeasonOf [I day] (.tup [Sn y (kd w), I 0]) := by
  refine g.fn code_calendar_SeasonOf rfl ?_
  have hge := h.ge
  have hz := beg_next 2000 false (by omega)
  have hc := s_checkDay g day
  rw [(@rng_zero day 0 99999).2 (by omega)] at hc
  have h1 := s_begin g 2000 false (by omega)
  have h2 := s_begin g 2273 false (by omega)
  obtain ⟨Y, m, d, hd⟩ := exists_date day ⟨by omega, by omega⟩
  have hcase := h.date hd
  have hY := hd.hy
  have hl := sundays Y hY.1
  generalize beg 2000 false = b1 at *
  generalize beg 2273 false = b2 at *
  have hs3 := s_lastSunday g Y 3 (by omega) (by omega)
  have hs10 := s_lastSunday g Y 10 (by omega) (by omega)
  generalize sunM Y 3 = n3 at *
  generalize sunM Y 10 = n10 at *
  rcases hcase with ⟨rfl, e1, e2, e3⟩ | ⟨rfl, e1, e2, e3⟩ | ⟨rfl, e1, e2⟩
  all_goals subst e1
  all_goals repeat' ((conv => whnf); first
    | (refine Br.tt ?_)
    | (refine Br.ff ?_)
    | (refine Need.mk (by first | omega | (simp; done) | (simp; omega)) ?_)
    | (refine Wr.keep (by omega) ?_)
    | (refine Cmp.tt (by first | omega | decide) ?_)
    | (refine Cmp.ff (by first | omega | decide) ?_)
    | (refine Rem.pos (by omega) ?_)
    | (refine Quo.pos (by omega) ?_)
    | (refine PickV.now rfl ?_)
    | (refine Pick.now rfl ?_)
    | (refine PickW.now (by first | omega | decide) rfl ?_)
    | (refine CallI.of hc ?_)
    | (refine CallI.of (s_earliest g) ?_)
    | (refine CallI.of (s_latest g) ?_)
    | (refine CallI.of h1 ?_)
    | (refine CallI.of h2 ?_)
    | (refine CallI.of (s_next g 2272 true (by omega)) ?_)
    | (refine CallI.of (s_date g hd) ?_)
    | (refine CallI.of hs3 ?_)
    | (refine CallI.of hs10 ?_)
    | (refine Ret.mk ?_))
  · rfl
  · rfl
  · simp [kd]

theorem s_Next_ok (y : Int) (w : Bool) (hy : 2000 ≤ y ∧ y ≤ 2272) (hn : ¬ (y = 2272 ∧ w = true)) : Fc E n_calendar_Next [Sn y (kd w)] (.tup [Sn (nxY y w) (kd (!w)), I 0]) := by
  refine g.fn code_calendar_Next rfl ?_
  have hs := s_CheckSeason g y (kd w)
  rw [chkSea_zero.2 ⟨hy, w, rfl⟩] at hs
  have hx := s_next g y w (by omega)
  cases w
  · repeat' ((conv => whnf); first
    | (refine Br.tt ?_)
    | (refine Br.ff ?_)
    | (refine Need.mk (by first | omega | (simp; done) | (simp; omega)) ?_)
    | (refine Wr.keep (by omega) ?_)
    | (refine Cmp.tt (by first | omega | decide) ?_)
    | (refine Cmp.ff (by first | omega | decide) ?_)
    | (refine Rem.pos (by omega) ?_)
    | (refine Quo.pos (by omega) ?_)
    | (refine PickV.now rfl ?_)
    | (refine Pick.now rfl ?_)
    | (refine PickW.now (by first | omega | decide) rfl ?_)
      | (refine CallI.of hs ?_)
      | (refine CallI.of (s_latest g) ?_)
      | (refine Cmp.ff (by simp [kd]) ?_)
      | (refine CallI.of (s_when g _ _) ?_)
      | (refine CallI.of (s_first2 g _ _) ?_)
      | (refine CallI.of hx ?_)
      | (refine Need.mk (by simp [win]; done) ?_)
      | (refine Ret.mk rfl))
  · repeat' ((conv => whnf); first
    | (refine Br.tt ?_)
    | (refine Br.ff ?_)
    | (refine Need.mk (by first | omega | (simp; done) | (simp; omega)) ?_)
    | (refine Wr.keep (by omega) ?_)
    | (refine Cmp.tt (by first | omega | decide) ?_)
    | (refine Cmp.ff (by first | omega | decide) ?_)
    | (refine Rem.pos (by omega) ?_)
    | (refine Quo.pos (by omega) ?_)
    | (refine PickV.now rfl ?_)
    | (refine Pick.now rfl ?_)
    | (refine PickW.now (by first | omega | decide) rfl ?_)
      | (refine CallI.of hs ?_)
      | (refine CallI.of (s_latest g) ?_)
      | (refine Cmp.ff (by simp at hn ⊢; exact fun e => absurd e hn) ?_)
      | (refine CallI.of (s_when g _ _) ?_)
      | (refine CallI.of (s_first2 g _ _) ?_)
      | (refine CallI.of hx ?_)
      | (refine Need.mk (by simp [win]; done) ?_)
      | (refine Ret.mk rfl))

theorem s_Next_last : Fc E n_calendar_Next [Sn 2272 (kd true)] (.tup [Sn 0 [], I 7]) := by
  refine g.fn code_calendar_Next rfl ?_
  have hs := s_CheckSeason g 2272 (kd true)
  rw [chkSea_zero.2 ⟨by omega, true, rfl⟩] at hs
  repeat' ((conv => whnf); first
    | (refine Br.tt ?_)
    | (refine Br.ff ?_)
    | (refine Need.mk (by first | omega | (simp; done) | (simp; omega)) ?_)
    | (refine Wr.keep (by omega) ?_)
    | (refine Cmp.tt (by first | omega | decide) ?_)
    | (refine Cmp.ff (by first | omega | decide) ?_)
    | (refine Rem.pos (by omega) ?_)
    | (refine Quo.pos (by omega) ?_)
    | (refine PickV.now rfl ?_)
    | (refine Pick.now rfl ?_)
    | (refine PickW.now (by first | omega | decide) rfl ?_)
    | (refine CallI.of hs ?_)
    | (refine CallI.of (s_latest g) ?_)
    | (refine Cmp.tt (by simp) ?_)
    | (refine CallI.of (s_when g _ _) ?_)
    | (refine CallI.of (s_first2 g _ _) ?_)
    | (refine Need.mk (by simp [win]; done) ?_)
    | (refine Ret.mk rfl))

theorem s_Prev_W (y : Int) (hy : 2000 ≤ y ∧ y ≤ 2272) : Fc E n_calendar_Previous [Sn y (kd true)] (.tup [Sn y (kd false), I 0]) := by
  refine g.fn code_calendar_Previous rfl ?_
  have hs := s_CheckSeason g y (kd true)
  rw [chkSea_zero.2 ⟨hy, true, rfl⟩] at hs
  repeat' ((conv => whnf); first
    | (refine Br.tt ?_)
    | (refine Br.ff ?_)
    | (refine Need.mk (by first | omega | (simp; done) | (simp; omega)) ?_)
    | (refine Wr.keep (by omega) ?_)
    | (refine Cmp.tt (by first | omega | decide) ?_)
    | (refine Cmp.ff (by first | omega | decide) ?_)
    | (refine Rem.pos (by omega) ?_)
    | (refine Quo.pos (by omega) ?_)
    | (refine PickV.now rfl ?_)
    | (refine Pick.now rfl ?_)
    | (refine PickW.now (by first | omega | decide) rfl ?_)
    | (refine CallI.of hs ?_)
    | (refine CallI.of (s_earliest g) ?_)
    | (refine Cmp.ff (by simp [kd]) ?_)
    | (refine CallI.of (s_when g _ _) ?_)
    | (refine CallI.of (s_first2 g _ _) ?_)
    | (refine Need.mk (by simp [win]; done) ?_)
    | (refine Ret.mk rfl))
theorem s_Prev_S (y : Int) (hy : 2001 ≤ y ∧ y ≤ 2272) : Fc E n_calendar_Previous [Sn y (kd false)] (.tup [Sn (y - 1) (kd true), I 0]) := by
  refine g.fn code_calendar_Previous rfl ?_
  have hs := s_CheckSeason g y (kd false)
  rw [chkSea_zero.2 ⟨by omega, false, rfl⟩] at hs
  repeat' ((conv => whnf); first
    | (refine Br.tt ?_)
    | (refine Br.ff ?_)
    | (refine Need.mk (by first | omega | (simp; done) | (simp; omega)) ?_)
    | (refine Wr.keep (by omega) ?_)
    | (refine Cmp.tt (by first | omega | decide) ?_)
    | (refine Cmp.ff (by first | omega | decide) ?_)
    | (refine Rem.pos (by omega) ?_)
    | (refine Quo.pos (by omega) ?_)
    | (refine PickV.now rfl ?_)
    | (refine Pick.now rfl ?_)
    | (refine PickW.now (by first | omega | decide) rfl ?_)
    | (refine CallI.of hs ?_)
    | (refine CallI.of (s_earliest g) ?_)
    | (refine Cmp.ff (fun h => absurd h.1 (by omega)) ?_)
    | (refine CallI.of (s_when g _ _) ?_)
    | (refine CallI.of (s_first2 g _ _) ?_)
    | (refine Need.mk (by simp [win]; done) ?_)
    | (refine Ret.mk rfl))

theorem s_Equiv_ok {day y1 : Int} {w : Bool} (y : Int) (h0 : day ≤ 99999) (h : InSea day y1 w) (hy : 2000 ≤ y ∧ y ≤ 2272) :
    Fc E n_calendar_Equivalent [I day, Sn y (kd w)] (if beg (nxY y w) (!w) ≤ beg y w + day - beg y1 w then .tup [I 0, I 7] else .tup [I (beg y w + day - beg y1 w), I 0]) := by
  refine g.fn code_calendar_Equivalent rfl ?_
  have hs := s_CheckSeason g y (kd w)
  rw [chkSea_zero.2 ⟨hy, w, rfl⟩] at hs
  have hso := s_SeasonOf_in g h0 h
  have hb1 := s_begin g y1 w (by have := h.hy; omega)
  have hb := s_begin g y w (by omega)
  have hn := s_next g y w (by omega)
  have hy2 : 2000 ≤ nxY y w ∧ nxY y w ≤ 2273 := by cases w <;> simp only [nxY] <;> omega
  have hb2 := s_begin g (nxY y w) (!w) hy2
  have l1 := beg_next y1 w (by have := h.hy; omega)
  have l2 := beg_next y w (by omega)
  have l3 := h.lo
  have l4 := h.hi
  generalize beg (nxY y w) (!w) = n2 at *
  generalize beg y w = n at *
  generalize beg y1 w = n1 at *
  by_cases hc : n2 ≤ n + day - n1
  · rw [if_pos hc]
    repeat' ((conv => whnf); first
      | (refine Br.tt ?_)
      | (refine Br.ff ?_)
      | (refine Need.mk (by first | omega | (simp; done) | (simp; omega)) ?_)
      | (refine Wr.keep (by omega) ?_)
      | (refine Cmp.tt (by first | omega | decide) ?_)
      | (refine Cmp.ff (by first | omega | decide) ?_)
      | (refine Rem.pos (by omega) ?_)
      | (refine Quo.pos (by omega) ?_)
      | (refine PickV.now rfl ?_)
      | (refine Pick.now rfl ?_)
      | (refine PickW.now (by first | omega | decide) rfl ?_)
      | (refine CallI.of hs ?_)
      | (refine CallI.of hso ?_)
      | (refine CallI.of hb ?_)
      | (refine CallI.of hb1 ?_)
      | (refine CallI.of hn ?_)
      | (refine CallI.of hb2 ?_)
      | (refine Cmp.tt rfl ?_)
      | (refine CallI.of (s_when g _ _) ?_)
      | (refine CallI.of (s_first3 g _ _ _) ?_)
      | (refine Ret.mk rfl))
  · rw [if_neg hc]
    repeat' ((conv => whnf); first
      | (refine Br.tt ?_)
      | (refine Br.ff ?_)
      | (refine Need.mk (by first | omega | (simp; done) | (simp; omega)) ?_)
      | (refine Wr.keep (by omega) ?_)
      | (refine Cmp.tt (by first | omega | decide) ?_)
      | (refine Cmp.ff (by first | omega | decide) ?_)
      | (refine Rem.pos (by omega) ?_)
      | (refine Quo.pos (by omega) ?_)
      | (refine PickV.now rfl ?_)
      | (refine Pick.now rfl ?_)
      | (refine PickW.now (by first | omega | decide) rfl ?_)
      | (refine CallI.of hs ?_)
      | (refine CallI.of hso ?_)
      | (refine CallI.of hb ?_)
      | (refine CallI.of hb1 ?_)
      | (refine CallI.of hn ?_)
      | (refine CallI.of hb2 ?_)
      | (refine Cmp.tt rfl ?_)
      | (refine CallI.of (s_when g _ _) ?_)
      | (refine CallI.of (s_first3 g _ _ _) ?_)
      | (refine Ret.mk rfl))
end
end Go.Proofs.YtlboecjgelnabaaGreatDoor.Co

