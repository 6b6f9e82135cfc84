
/-
  CalendarDates returns true, for every date and day.
-/
import Derived.Test.YtlboecjgelnabaaGreatDoorFit
import Derived.Test.YtlboecjgelnabaaGreatDoorSpDay
import Derived.Test.YtlboecjgelnabaaGreatDoorSpLaw
import Derived.Test.YtlboecjgelnabaaGreatDoorAwake
namespace Go.Proofs.YtlboecjgelnabaaGreatDoor.Co
open Go Go.Evl
set_option maxRecDepth 100000

section
variable {E : Oracle} (g : Good E)
include g

theorem w_CalendarDates (y m d day : Int) : Fc E n_law01_CalendarDates [Dt y m d, I day] (B true) := by
  refine g.fn code_law01_CalendarDates rfl ?_
  have kc := r_CheckDate g y m d
  have kd := r_CheckDay g day
  have bnd : chkDate y m d = 0 → (2000 ≤ y ∧ y ≤ 3000) ∧ (1 ≤ m ∧ m ≤ 12) ∧ (0 ≤ d ∧ d ≤ 100) := by
    intro h
    have k1 := @rng_zero y 2000 2273
    have k2 := @rng_zero m 1 12
    have k3 := @rng_zero d 1 31
    unfold chkDate at h
    split at h <;> omega
  have hday : ∃ n, Fc E n_calendar_Day [I y, I m, I d] (.tup [I n, I (chkDate y m d)]) ∧ (chkDate y m d = 0 → Fc E n_ref01_Day [I y, I m, I d] (I n)) ∧ (chkDate y m d ≠ 0 → n = 0) := by
    by_cases h : chkDate y m d = 0
    · have := s_Day_ok g y m d h
      obtain ⟨b1, b2, b3⟩ := bnd h
      exact ⟨_, by rw [h]; exact this, fun _ => r_Day g y m d b1 b2 b3, fun hn => absurd h hn⟩
    · exact ⟨0, s_Day_bad g y m d h, fun hn => absurd hn h, fun _ => rfl⟩
  obtain ⟨n, hd1, hd2, hd3⟩ := hday
  have hrest : ∃ a b c w t, Fc E n_calendar_Date [I day] (.tup [Dt a b c, I (rng day 0 99999)]) ∧ Fc E n_calendar_Weekday [I day] (.tup [I w, I (rng day 0 99999)]) ∧ Fc E n_calendar_PrintDate [I day] (.tup [S t, I (rng day 0 99999)]) ∧
      (rng day 0 99999 = 0 → Fc E n_ref01_Date [I day] (Dt a b c) ∧ Fc E n_ref01_Weekday [I day] (I w) ∧ Fc E n_ref01_PrintDate [I day] (S t)) ∧ (rng day 0 99999 ≠ 0 → a = 0 ∧ b = 0 ∧ c = 0 ∧ w = 0 ∧ t = []) := by
    by_cases h : rng day 0 99999 = 0
    · have h0 := rng_zero.1 h
      obtain ⟨a, b, c, hd⟩ := exists_date day (by omega)
      rw [h]
      exact ⟨a, b, c, _, _, s_Date_ok g hd h0, s_Weekday_ok g day h0, s_PrintDate_ok g hd h0, fun _ => ⟨r_Date g hd, r_Weekday g day (by omega), r_PrintDate g hd⟩, fun hn => absurd rfl hn⟩
    · exact ⟨0, 0, 0, 0, [], s_Date_bad g day h, s_Weekday_bad g day h, s_PrintDate_bad g day h, fun hn => absurd hn h, fun _ => ⟨rfl, rfl, rfl, rfl, rfl⟩⟩
  obtain ⟨a, b, c, w, t, e1, e2, e3, e4, e5⟩ := hrest
  generalize chkDate y m d = c1 at *
  generalize rng day 0 99999 = c2 at *
  by_cases h1 : c1 = 0
  · subst h1
    have hd2 := hd2 rfl
    by_cases h2 : c2 = 0
    · subst h2
      obtain ⟨f1, f2, f3⟩ := e4 rfl
      repeat' ((conv => whnf); first
        | (refine Br.tt ?_)
        | (refine Br.ff ?_)
        | (refine Need.mk (by first | omega | (simp; done) | (simp; omega)) ?_)
        | (refine Wr.keep (by omega) ?_)
        | (refine Cmp.tt (by first | omega | decide) ?_)
        | (refine Cmp.ff (by first | omega | decide) ?_)
        | (refine Rem.pos (by omega) ?_)
        | (refine Quo.pos (by omega) ?_)
        | (refine PickV.now rfl ?_)
        | (refine Pick.now rfl ?_)
        | (refine PickW.now (by first | omega | decide) rfl ?_)
        | (refine CallI.of (s_awake g) ?_)
        | (refine CallI.of kc ?_)
        | (refine CallI.of kd ?_)
        | (refine CallI.of hd1 ?_)
        | (refine CallI.of hd2 ?_)
        | (refine CallI.of e1 ?_)
        | (refine CallI.of e2 ?_)
        | (refine CallI.of e3 ?_)
        | (refine CallI.of f1 ?_)
        | (refine CallI.of f2 ?_)
        | (refine CallI.of f3 ?_)
        | (refine CallI.of (w_number_ok g _) ?_)
        | (refine CallI.of (w_text_ok g _) ?_)
        | (refine Ret.mk rfl))
    · obtain ⟨rfl, rfl, rfl, rfl, rfl⟩ := e5 h2
      repeat' ((conv => whnf); first
        | (refine Br.tt ?_)
        | (refine Br.ff ?_)
        | (refine Need.mk (by first | omega | (simp; done) | (simp; omega)) ?_)
        | (refine Wr.keep (by omega) ?_)
        | (refine Cmp.tt (by first | omega | decide) ?_)
        | (refine Cmp.ff (by first | omega | decide) ?_)
        | (refine Rem.pos (by omega) ?_)
        | (refine Quo.pos (by omega) ?_)
        | (refine PickV.now rfl ?_)
        | (refine Pick.now rfl ?_)
        | (refine PickW.now (by first | omega | decide) rfl ?_)
        | (refine CallI.of (s_awake g) ?_)
        | (refine CallI.of kc ?_)
        | (refine CallI.of kd ?_)
        | (refine CallI.of hd1 ?_)
        | (refine CallI.of hd2 ?_)
        | (refine CallI.of e1 ?_)
        | (refine CallI.of e2 ?_)
        | (refine CallI.of e3 ?_)
        | (refine CallI.of (w_number_bad g _ _ h2) ?_)
        | (refine CallI.of (w_text_bad g _ _ h2) ?_)
        | (refine CallI.of (w_number_ok g _) ?_)
        | (refine Ret.mk rfl))
  · obtain rfl := hd3 h1
    by_cases h2 : c2 = 0
    · subst h2
      obtain ⟨f1, f2, f3⟩ := e4 rfl
      repeat' ((conv => whnf); first
        | (refine Br.tt ?_)
        | (refine Br.ff ?_)
        | (refine Need.mk (by first | omega | (simp; done) | (simp; omega)) ?_)
        | (refine Wr.keep (by omega) ?_)
        | (refine Cmp.tt (by first | omega | decide) ?_)
        | (refine Cmp.ff (by first | omega | decide) ?_)
        | (refine Rem.pos (by omega) ?_)
        | (refine Quo.pos (by omega) ?_)
        | (refine PickV.now rfl ?_)
        | (refine Pick.now rfl ?_)
        | (refine PickW.now (by first | omega | decide) rfl ?_)
        | (refine CallI.of (s_awake g) ?_)
        | (refine CallI.of kc ?_)
        | (refine CallI.of kd ?_)
        | (refine CallI.of hd1 ?_)
        | (refine CallI.of e1 ?_)
        | (refine CallI.of e2 ?_)
        | (refine CallI.of e3 ?_)
        | (refine CallI.of f1 ?_)
        | (refine CallI.of f2 ?_)
        | (refine CallI.of f3 ?_)
        | (refine CallI.of (w_number_bad g _ _ h1) ?_)
        | (refine CallI.of (w_number_ok g _) ?_)
        | (refine CallI.of (w_text_ok g _) ?_)
        | (refine Ret.mk rfl))
    · obtain ⟨rfl, rfl, rfl, rfl, rfl⟩ := e5 h2
      repeat' ((conv => whnf); first
        | (refine Br.tt ?_)
        | (refine Br.ff ?_)
        | (refine Need.mk (by first | omega | (simp; done) | (simp; omega)) ?_)
        | (refine Wr.keep (by omega) ?_)
        | (refine Cmp.tt (by first | omega | decide) ?_)
        | (refine Cmp.ff (by first | omega | decide) ?_)
        | (refine Rem.pos (by omega) ?_)
        | (refine Quo.pos (by omega) ?_)
        | (refine PickV.now rfl ?_)
        | (refine Pick.now rfl ?_)
        | (refine PickW.now (by first | omega | decide) rfl ?_)
        | (refine CallI.of (s_awake g) ?_)
        | (refine CallI.of kc ?_)
        | (refine CallI.of kd ?_)
        | (refine CallI.of hd1 ?_)
        | (refine CallI.of e1 ?_)
        | (refine CallI.of e2 ?_)
        | (refine CallI.of e3 ?_)
        | (refine CallI.of (w_number_bad g _ _ h1) ?_)
        | (refine CallI.of (w_number_bad g _ _ h2) ?_)
        | (refine CallI.of (w_text_bad g _ _ h2) ?_)
        | (refine Ret.mk rfl))
end

theorem s_CalendarDates {E : Oracle} (g : Good E) {xs : List D} (h : fitArgs Tryz.prog [56, 3] xs) : Fc E n_law01_CalendarDates (asV xs) (B true) := by
  obtain ⟨x, y, rfl, h1, h2⟩ := args2 h
  obtain ⟨ds, rfl, h4⟩ := arg_ar Tryz.underlying56 h1
  obtain ⟨l, rfl, hl, _⟩ := fit_ints 3 h4
  obtain ⟨day, rfl, _⟩ := arg_int h2
  match l, hl with
  | [a, b, c], _ => exact w_CalendarDates g a b c day
end Go.Proofs.YtlboecjgelnabaaGreatDoor.Co

