
/-
  CalendarTexts returns true, for every text and mask.
-/
import Derived.Test.YtlboecjgelnabaaGreatDoorFit
import Derived.Test.YtlboecjgelnabaaGreatDoorSpTxt
import Derived.Test.YtlboecjgelnabaaGreatDoorSpMsk
import Derived.Test.YtlboecjgelnabaaGreatDoorSpLaw
import Derived.Test.YtlboecjgelnabaaGreatDoorAwake
namespace Go.Proofs.YtlboecjgelnabaaGreatDoor.Co
open Go Go.Evl
set_option maxRecDepth 100000

section
variable {E : Oracle} (g : Good E)
include g

omit g in
theorem parsedD_uniq {s : List UInt8} {n e n' e' : Int} (h : ParsedD s n e) (h' : ParsedD s n' e') : n = n' ∧ e = e' ∧ (e ≠ 0 → n = 0) := by
  by_cases hf : formD s
  · obtain ⟨h1, h2⟩ := h.good hf
    obtain ⟨h3, h4⟩ := h'.good hf
    rw [← h1] at h3
    subst h3
    exact ⟨h2.trans h4.symm, rfl, fun hn => h2.trans (if_neg hn)⟩
  · obtain ⟨h1, h2⟩ := h.bad hf
    obtain ⟨h3, h4⟩ := h'.bad hf
    exact ⟨by omega, by omega, fun _ => h1⟩

set_option maxHeartbeats 4000000 in
theorem w_CalendarTexts (s : List UInt8) (mask : Int) : Fc E n_law01_CalendarTexts [S s, I mask] (B true) := by
  have aw := s_awake g
  refine g.fn code_law01_CalendarTexts rfl ?_
  by_cases hl : s.length ≤ 60
  · obtain ⟨n, e, sd, sp⟩ := s_ParseDate g s
    obtain ⟨n', e', rd, rp⟩ := r_ParseDate g s
    obtain ⟨rfl, rfl, hne⟩ := parsedD_uniq sp rp
    have sm := s_ParseMask g s
    have rm := r_ParseMask g s
    have si := s_IsName g s
    have ri := r_IsName g s
    have cr := r_CheckRange g mask 1 127
    have wd : Fc E n_law01_number [I n, I e, I e, I n] (B true) := by
      by_cases h : e = 0
      · subst h; exact w_number_ok g n
      · rw [hne h]; exact w_number_bad g e 0 h
    have hmm : ∃ x y : Int, Fc E n_calendar_ParseMask [S s] (.tup [I x, I y]) ∧ Fc E n_ref01_ParseMask [S s] (.tup [I x, I y]) ∧ Fc E n_law01_number [I x, I y, I y, I x] (B true) := by
      by_cases h : isMaskT s
      · rw [if_pos h] at sm rm
        exact ⟨_, _, sm, rm, w_number_ok g _⟩
      · rw [if_neg h] at sm rm
        exact ⟨_, _, sm, rm, w_number_bad g _ _ (by decide)⟩
    obtain ⟨x, y, sm', rm', wm⟩ := hmm
    clear sm rm sp rp hne
    by_cases hr : rng mask 1 127 = 0
    · have hm := rng_zero.1 hr
      obtain ⟨k, rfl⟩ : ∃ k : Nat, mask = k := ⟨mask.toNat, by omega⟩
      have pm := s_PrintMask_ok g k (by omega)
      have rpm := r_PrintMask g k (by omega)
      have wt := w_text_ok g (maskL k)
      rw [hr] at cr
      generalize isNameB s = b at *
      cases b
      all_goals repeat' ((conv => whnf); first
        | (refine Br.tt ?_)
        | (refine Br.ff ?_)
        | (refine Need.mk (by first | omega | (simp; done) | (simp; omega)) ?_)
        | (refine Wr.keep (by omega) ?_)
        | (refine Cmp.tt (by first | omega | decide) ?_)
        | (refine Cmp.ff (by first | omega | decide) ?_)
        | (refine Rem.pos (by omega) ?_)
        | (refine Quo.pos (by omega) ?_)
        | (refine PickV.now rfl ?_)
        | (refine Pick.now rfl ?_)
        | (refine PickW.now (by first | omega | decide) rfl ?_)
        | (apply CallI.of; assumption)
        | (refine Ret.mk rfl))
    · have pm := s_PrintMask_bad g mask hr
      generalize rng mask 1 127 = c at *
      have wt := w_text_bad g c [] hr
      generalize isNameB s = b at *
      cases b
      all_goals repeat' ((conv => whnf); first
        | (refine Br.tt ?_)
        | (refine Br.ff ?_)
        | (refine Need.mk (by first | omega | (simp; done) | (simp; omega)) ?_)
        | (refine Wr.keep (by omega) ?_)
        | (refine Cmp.tt (by first | omega | decide) ?_)
        | (refine Cmp.ff (by first | omega | decide) ?_)
        | (refine Rem.pos (by omega) ?_)
        | (refine Quo.pos (by omega) ?_)
        | (refine PickV.now rfl ?_)
        | (refine Pick.now rfl ?_)
        | (refine PickW.now (by first | omega | decide) rfl ?_)
        | (apply CallI.of; assumption)
        | (refine Ret.mk rfl))
  · repeat' ((conv => whnf); first
    | (refine Br.tt ?_)
    | (refine Br.ff ?_)
    | (refine Need.mk (by first | omega | (simp; done) | (simp; omega)) ?_)
    | (refine Wr.keep (by omega) ?_)
    | (refine Cmp.tt (by first | omega | decide) ?_)
    | (refine Cmp.ff (by first | omega | decide) ?_)
    | (refine Rem.pos (by omega) ?_)
    | (refine Quo.pos (by omega) ?_)
    | (refine PickV.now rfl ?_)
    | (refine Pick.now rfl ?_)
    | (refine PickW.now (by first | omega | decide) rfl ?_)
      | (apply CallI.of; assumption)
      | (refine Ret.mk rfl))
end

theorem s_CalendarTexts {E : Oracle} (g : Good E) {xs : List D} (h : fitArgs Tryz.prog [9, 3] xs) : Fc E n_law01_CalendarTexts (asV xs) (B true) := by
  obtain ⟨x, y, rfl, h1, h2⟩ := args2 h
  obtain ⟨s, rfl, _⟩ := arg_s Tryz.underlying9 h1
  obtain ⟨m, rfl, _⟩ := arg_int h2
  exact w_CalendarTexts g s m
end Go.Proofs.YtlboecjgelnabaaGreatDoor.Co

