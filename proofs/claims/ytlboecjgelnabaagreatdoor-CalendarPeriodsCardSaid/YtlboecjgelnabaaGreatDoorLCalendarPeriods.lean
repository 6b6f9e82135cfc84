
/-
  CalendarPeriods returns true, for every two periods and day.
-/
import Derived.Test.YtlboecjgelnabaaGreatDoorFit
import Derived.Test.YtlboecjgelnabaaGreatDoorSpPes
import Derived.Test.YtlboecjgelnabaaGreatDoorSpLaw
import Derived.Test.YtlboecjgelnabaaGreatDoorAwake
namespace Go.Proofs.YtlboecjgelnabaaGreatDoor.Co
open Go Go.Evl
set_option maxRecDepth 100000

section
variable {E : Oracle} (g : Good E)
include g

set_option maxHeartbeats 4000000 in
theorem w_CalendarPeriods (f t d f2 t2 d2 day : Int) : Fc E n_law01_CalendarPeriods [Per f t d, Per f2 t2 d2, I day] (B true) := by
  refine g.fn code_law01_CalendarPeriods rfl ?_
  have kp := r_CheckPeriod g f t d
  have kp2 := r_CheckPeriod g f2 t2 d2
  have sp := s_CheckPeriod g f t d
  have kd := r_CheckDay g day
  by_cases h1 : chkPer f t d = 0
  · have hb := chkPer_zero.1 h1
    have hd := s_DaysOf_ok g f t d h1
    have hdr := r_DaysOf g f t d h1
    have hlen := daysP_length f d (t - f + 1).toNat
    have hmlen := meetP_length (hasB f2 t2 d2) f d (t - f + 1).toNat
    have hcount := s_Count g f t d _ 0 hd
    have hl := w_list_ok g (daysP f d (t - f + 1).toNat) (by omega)
    have hn := w_number_ok g (daysP f d (t - f + 1).toNat).length
    have hhas : ∃ b, Fc E n_calendar_Has [Per f t d, I day] (.tup [B b, I (rng day 0 99999)]) ∧ (rng day 0 99999 = 0 → Fc E n_ref01_Has [Per f t d, I day] (B b)) ∧ (rng day 0 99999 ≠ 0 → b = false) := by
      by_cases h3 : rng day 0 99999 = 0
      · have := s_Has_ok g f t d day h1 h3
        have h4 := rng_zero.1 h3
        exact ⟨_, by rw [h3]; exact this, fun _ => r_Has g f t d day (by omega) (by omega), fun hn => absurd h3 hn⟩
      · have hz : firstI [chkPer f t d, rng day 0 99999] = rng day 0 99999 := by rw [h1]; simp only [firstI, if_true]; split <;> omega
        have := s_Has_bad g f t d day (by rw [hz]; exact h3)
        rw [hz] at this
        exact ⟨false, this, fun hn => absurd hn h3, fun _ => rfl⟩
    obtain ⟨b, a1, a2, a3⟩ := hhas
    have hmeet : ∃ m : List Int, m.length ≤ 1000 ∧ Fc E n_calendar_Meet [Per f t d, Per f2 t2 d2] (.tup [LI m, I (chkPer f2 t2 d2)]) ∧ (chkPer f2 t2 d2 = 0 → Fc E n_ref01_Meet [Per f t d, Per f2 t2 d2] (LI m)) ∧ (chkPer f2 t2 d2 ≠ 0 → m = []) := by
      by_cases h2 : chkPer f2 t2 d2 = 0
      · have := s_Meet_ok g f t d f2 t2 d2 h1 h2
        exact ⟨_, by omega, by rw [h2]; exact this, fun _ => r_Meet g f t d f2 t2 d2 h1 h2, fun hn => absurd h2 hn⟩
      · have hz : firstI [chkPer f t d, chkPer f2 t2 d2] = chkPer f2 t2 d2 := by rw [h1]; simp only [firstI, if_true]; split <;> omega
        have := s_Meet_bad g f t d f2 t2 d2 (by rw [hz]; exact h2)
        rw [hz] at this
        exact ⟨[], by simp, this, fun hn => absurd hn h2, fun _ => rfl⟩
    obtain ⟨m, b0, b1, b2, b3⟩ := hmeet
    rw [h1] at kp sp
    generalize daysP f d (t - f + 1).toNat = l at *
    generalize chkPer f2 t2 d2 = c2 at *
    generalize rng day 0 99999 = c3 at *
    have hm := w_list_ok g m (by omega)
    by_cases h2 : c2 = 0
    · subst h2
      have b2 := b2 rfl
      by_cases h3 : c3 = 0
      · subst h3
        have a2 := a2 rfl
        cases b
        all_goals repeat' ((conv => whnf); first
          | (refine Br.tt ?_)
          | (refine Br.ff ?_)
          | (refine Need.mk (by first | omega | (simp; done) | (simp; omega)) ?_)
          | (refine Wr.keep (by omega) ?_)
          | (refine Cmp.tt (by first | omega | decide) ?_)
          | (refine Cmp.ff (by first | omega | decide) ?_)
          | (refine Rem.pos (by omega) ?_)
          | (refine Quo.pos (by omega) ?_)
          | (refine PickV.now rfl ?_)
          | (refine Pick.now rfl ?_)
          | (refine PickW.now (by first | omega | decide) rfl ?_)
          | (refine CallI.of (s_awake g) ?_)
          | (refine CallI.of kp ?_)
          | (refine CallI.of kp2 ?_)
          | (refine CallI.of sp ?_)
          | (refine CallI.of kd ?_)
          | (refine CallI.of hd ?_)
          | (refine CallI.of hdr ?_)
          | (refine CallI.of hcount ?_)
          | (refine CallI.of hl ?_)
          | (refine CallI.of hn ?_)
          | (refine CallI.of a1 ?_)
          | (refine CallI.of a2 ?_)
          | (refine CallI.of b1 ?_)
          | (refine CallI.of b2 ?_)
          | (refine CallI.of hm ?_)
          | (refine Ret.mk rfl))
      · obtain rfl := a3 h3
        repeat' ((conv => whnf); first
          | (refine Br.tt ?_)
          | (refine Br.ff ?_)
          | (refine Need.mk (by first | omega | (simp; done) | (simp; omega)) ?_)
          | (refine Wr.keep (by omega) ?_)
          | (refine Cmp.tt (by first | omega | decide) ?_)
          | (refine Cmp.ff (by first | omega | decide) ?_)
          | (refine Rem.pos (by omega) ?_)
          | (refine Quo.pos (by omega) ?_)
          | (refine PickV.now rfl ?_)
          | (refine Pick.now rfl ?_)
          | (refine PickW.now (by first | omega | decide) rfl ?_)
          | (refine CallI.of (s_awake g) ?_)
          | (refine CallI.of kp ?_)
          | (refine CallI.of kp2 ?_)
          | (refine CallI.of sp ?_)
          | (refine CallI.of kd ?_)
          | (refine CallI.of hd ?_)
          | (refine CallI.of hdr ?_)
          | (refine CallI.of hcount ?_)
          | (refine CallI.of hl ?_)
          | (refine CallI.of hn ?_)
          | (refine CallI.of a1 ?_)
          | (refine CallI.of b1 ?_)
          | (refine CallI.of b2 ?_)
          | (refine CallI.of hm ?_)
          | (refine Ret.mk rfl))
    · obtain rfl := b3 h2
      have hm := w_list_bad g c2 h2
      by_cases h3 : c3 = 0
      · subst h3
        have a2 := a2 rfl
        cases b
        all_goals repeat' ((conv => whnf); first
          | (refine Br.tt ?_)
          | (refine Br.ff ?_)
          | (refine Need.mk (by first | omega | (simp; done) | (simp; omega)) ?_)
          | (refine Wr.keep (by omega) ?_)
          | (refine Cmp.tt (by first | omega | decide) ?_)
          | (refine Cmp.ff (by first | omega | decide) ?_)
          | (refine Rem.pos (by omega) ?_)
          | (refine Quo.pos (by omega) ?_)
          | (refine PickV.now rfl ?_)
          | (refine Pick.now rfl ?_)
          | (refine PickW.now (by first | omega | decide) rfl ?_)
          | (refine CallI.of (s_awake g) ?_)
          | (refine CallI.of kp ?_)
          | (refine CallI.of kp2 ?_)
          | (refine CallI.of sp ?_)
          | (refine CallI.of kd ?_)
          | (refine CallI.of hd ?_)
          | (refine CallI.of hdr ?_)
          | (refine CallI.of hcount ?_)
          | (refine CallI.of hl ?_)
          | (refine CallI.of hn ?_)
          | (refine CallI.of a1 ?_)
          | (refine CallI.of a2 ?_)
          | (refine CallI.of b1 ?_)
          | (refine CallI.of hm ?_)
          | (refine Ret.mk rfl))
      · obtain rfl := a3 h3
        repeat' ((conv => whnf); first
          | (refine Br.tt ?_)
          | (refine Br.ff ?_)
          | (refine Need.mk (by first | omega | (simp; done) | (simp; omega)) ?_)
          | (refine Wr.keep (by omega) ?_)
          | (refine Cmp.tt (by first | omega | decide) ?_)
          | (refine Cmp.ff (by first | omega | decide) ?_)
          | (refine Rem.pos (by omega) ?_)
          | (refine Quo.pos (by omega) ?_)
          | (refine PickV.now rfl ?_)
          | (refine Pick.now rfl ?_)
          | (refine PickW.now (by first | omega | decide) rfl ?_)
          | (refine CallI.of (s_awake g) ?_)
          | (refine CallI.of kp ?_)
          | (refine CallI.of kp2 ?_)
          | (refine CallI.of sp ?_)
          | (refine CallI.of kd ?_)
          | (refine CallI.of hd ?_)
          | (refine CallI.of hdr ?_)
          | (refine CallI.of hcount ?_)
          | (refine CallI.of hl ?_)
          | (refine CallI.of hn ?_)
          | (refine CallI.of a1 ?_)
          | (refine CallI.of b1 ?_)
          | (refine CallI.of hm ?_)
          | (refine Ret.mk rfl))
  · have hd := s_DaysOf_bad g f t d h1
    have hcount := s_Count g f t d _ _ hd
    have z1 : firstI [chkPer f t d, rng day 0 99999] = chkPer f t d := by simp [firstI, h1]
    have z2 : firstI [chkPer f t d, chkPer f2 t2 d2] = chkPer f t d := by simp [firstI, h1]
    have a1 := s_Has_bad g f t d day (by rw [z1]; exact h1)
    have b1 := s_Meet_bad g f t d f2 t2 d2 (by rw [z2]; exact h1)
    rw [z1] at a1
    rw [z2] at b1
    generalize chkPer f t d = c1 at *
    have hl := w_list_bad g c1 h1
    have hn := w_number_bad g c1 0 h1
    repeat' ((conv => whnf); first
      | (refine Br.tt ?_)
      | (refine Br.ff ?_)
      | (refine Need.mk (by first | omega | (simp; done) | (simp; omega)) ?_)
      | (refine Wr.keep (by omega) ?_)
      | (refine Cmp.tt (by first | omega | decide) ?_)
      | (refine Cmp.ff (by first | omega | decide) ?_)
      | (refine Rem.pos (by omega) ?_)
      | (refine Quo.pos (by omega) ?_)
      | (refine PickV.now rfl ?_)
      | (refine Pick.now rfl ?_)
      | (refine PickW.now (by first | omega | decide) rfl ?_)
      | (refine CallI.of (s_awake g) ?_)
      | (refine CallI.of kp ?_)
      | (refine CallI.of sp ?_)
      | (refine CallI.of hd ?_)
      | (refine CallI.of hcount ?_)
      | (refine CallI.of hl ?_)
      | (refine CallI.of hn ?_)
      | (refine CallI.of a1 ?_)
      | (refine CallI.of b1 ?_)
      | (refine Ret.mk rfl))
end

theorem s_CalendarPeriods {E : Oracle} (g : Good E) {xs : List D} (h : fitArgs Tryz.prog [68, 68, 3] xs) : Fc E n_law01_CalendarPeriods (asV xs) (B true) := by
  obtain ⟨x, y, z, rfl, h1, h2, h3⟩ := args3 h
  obtain ⟨f, t, d, rfl, _⟩ := arg_Per h1
  obtain ⟨f2, t2, d2, rfl, _⟩ := arg_Per h2
  obtain ⟨day, rfl, _⟩ := arg_int h3
  exact w_CalendarPeriods g f t d f2 t2 d2 day
end Go.Proofs.YtlboecjgelnabaaGreatDoor.Co

