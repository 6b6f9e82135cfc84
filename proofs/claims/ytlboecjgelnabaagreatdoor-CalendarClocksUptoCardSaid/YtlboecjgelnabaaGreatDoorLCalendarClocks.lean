
/-
  CalendarClocks returns true, for every zone and moment.
-/
import Derived.Test.YtlboecjgelnabaaGreatDoorFit
import Derived.Test.YtlboecjgelnabaaGreatDoorSpUnj
import Derived.Test.YtlboecjgelnabaaGreatDoorSpLaw
import Derived.Test.YtlboecjgelnabaaGreatDoorAwake
namespace Go.Proofs.YtlboecjgelnabaaGreatDoor.Co
open Go Go.Evl
set_option maxRecDepth 100000

section
variable {E : Oracle} (g : Good E)
include g

theorem w_CalendarClocks (o : Int) (l : List (Int × Int)) (m : Int) (hl : l.length ≤ 1048576) : Fc E n_law01_CalendarClocks [Zo o l, I m] (B true) := by
  have aw := s_awake g
  have wz := w_zone g o l hl
  have sh := r_ShortZone g o l 6
  by_cases hs : (l.length : Int) ≤ 6 ∨ 64 < l.length ∧ l.length ≤ 66
  · rw [decide_eq_true hs] at sh
    have cz := r_CheckZone g o l hl
    have sz := s_CheckZone g o l hl
    have cm := r_CheckMoment g m
    by_cases hz : firstI [chkZone o l, rng m 0 143999999] = 0
    · have hz1 : chkZone o l = 0 := by simp only [firstI] at hz; split at hz <;> omega
      have hz2 : rng m 0 143999999 = 0 := by simp only [firstI, hz1, if_true] at hz; split at hz <;> omega
      have hm := rng_zero.1 hz2
      have sl := s_Local_ok g o l m hl hz1 hz2
      have su := s_Universal_ok g o l m hl hz1 hz2
      have rl := r_Local g o l m hl hz1 (by omega)
      have ru := r_Universal g o l m hl hz1 hz2
      have wf : Fc E n_law01_first [.d (.list 2 [DI 0, DI 0])] (I 0) := w_first2 g 0 0
      have hlen : (uniA o l m).length ≤ 140737488355328 := by have := uniA_length o l m; omega
      have wl := w_list_ok g _ hlen
      have wlb := w_list_bad g 7 (by decide)
      have hr := atN_range hz1 m l.length (Nat.le_refl _)
      have wn := w_number_ok g (m + atN o l m l.length)
      have wnb := w_number_bad g 30 0 (by decide)
      have cm2 := r_CheckMoment g (m + atN o l m l.length)
      rw [uniR_eq m hz1] at ru
      rw [hz1] at cz sz
      rw [hz2] at cm
      generalize uniA o l m = ul at *
      generalize m + atN o l m l.length = lo at *
      generalize rng lo 0 143999999 = c2 at *
      refine g.fn code_law01_CalendarClocks rfl ?_
      by_cases hc2 : c2 = 0
      · subst hc2
        rw [if_pos rfl] at sl
        cases ul with
        | nil =>
          rw [if_pos rfl] at su
          repeat' ((conv => whnf); first
            | (refine Br.tt ?_)
            | (refine Br.ff ?_)
            | (refine Need.mk (by first | omega | (simp; done) | (simp; omega)) ?_)
            | (refine Wr.keep (by omega) ?_)
            | (refine Cmp.tt (by first | omega | decide) ?_)
            | (refine Cmp.ff (by first | omega | decide) ?_)
            | (refine Rem.pos (by omega) ?_)
            | (refine Quo.pos (by omega) ?_)
            | (refine PickV.now rfl ?_)
            | (refine Pick.now rfl ?_)
            | (refine PickW.now (by first | omega | decide) rfl ?_)
            | (apply CallI.of; assumption)
            | (refine Cmp.mk (fun h => ?_) (fun h => ?_))
            | (refine Rem.any (by omega) (fun r hr he => ?_))
            | (refine Br.mk (fun h => ?_) (fun h => ?_))
            | (refine Ret.mk rfl))
        | cons x r =>
          rw [if_neg (by simp)] at su
          have hnz : ¬ ((x :: r).length : Int) = 0 := by simp only [List.length_cons]; omega
          repeat' ((conv => whnf); first
            | (refine Br.tt ?_)
            | (refine Br.ff ?_)
            | (refine Need.mk (by first | omega | (simp; done) | (simp; omega)) ?_)
            | (refine Wr.keep (by omega) ?_)
            | (refine Cmp.tt (by first | omega | decide) ?_)
            | (refine Cmp.ff (by first | omega | decide) ?_)
            | (refine Rem.pos (by omega) ?_)
            | (refine Quo.pos (by omega) ?_)
            | (refine PickV.now rfl ?_)
            | (refine Pick.now rfl ?_)
            | (refine PickW.now (by first | omega | decide) rfl ?_)
            | (apply CallI.of; assumption)
            | (refine Cmp.ff hnz ?_)
            | (refine Cmp.mk (fun h => ?_) (fun h => ?_))
            | (refine Rem.any (by omega) (fun r hr he => ?_))
            | (refine Br.mk (fun h => ?_) (fun h => ?_))
            | (refine Ret.mk rfl))
      · rw [if_neg hc2] at sl
        cases ul with
        | nil =>
          rw [if_pos rfl] at su
          repeat' ((conv => whnf); first
            | (refine Br.tt ?_)
            | (refine Br.ff ?_)
            | (refine Need.mk (by first | omega | (simp; done) | (simp; omega)) ?_)
            | (refine Wr.keep (by omega) ?_)
            | (refine Cmp.tt (by first | omega | decide) ?_)
            | (refine Cmp.ff (by first | omega | decide) ?_)
            | (refine Rem.pos (by omega) ?_)
            | (refine Quo.pos (by omega) ?_)
            | (refine PickV.now rfl ?_)
            | (refine Pick.now rfl ?_)
            | (refine PickW.now (by first | omega | decide) rfl ?_)
            | (apply CallI.of; assumption)
            | (refine Cmp.mk (fun h => ?_) (fun h => ?_))
            | (refine Rem.any (by omega) (fun r hr he => ?_))
            | (refine Br.mk (fun h => ?_) (fun h => ?_))
            | (refine Ret.mk rfl))
        | cons x r =>
          rw [if_neg (by simp)] at su
          have hnz : ¬ ((x :: r).length : Int) = 0 := by simp only [List.length_cons]; omega
          repeat' ((conv => whnf); first
            | (refine Br.tt ?_)
            | (refine Br.ff ?_)
            | (refine Need.mk (by first | omega | (simp; done) | (simp; omega)) ?_)
            | (refine Wr.keep (by omega) ?_)
            | (refine Cmp.tt (by first | omega | decide) ?_)
            | (refine Cmp.ff (by first | omega | decide) ?_)
            | (refine Rem.pos (by omega) ?_)
            | (refine Quo.pos (by omega) ?_)
            | (refine PickV.now rfl ?_)
            | (refine Pick.now rfl ?_)
            | (refine PickW.now (by first | omega | decide) rfl ?_)
            | (apply CallI.of; assumption)
            | (refine Cmp.ff hnz ?_)
            | (refine Cmp.mk (fun h => ?_) (fun h => ?_))
            | (refine Rem.any (by omega) (fun r hr he => ?_))
            | (refine Br.mk (fun h => ?_) (fun h => ?_))
            | (refine Ret.mk rfl))
    · have sl := s_Local_bad g o l m hl hz
      have su := s_Universal_bad g o l m hl hz
      have wf := w_first2 g (chkZone o l) (rng m 0 143999999)
      have wn := w_number_bad g _ 0 hz
      have wlb := w_list_bad g _ hz
      generalize firstI [chkZone o l, rng m 0 143999999] = c at *
      refine g.fn code_law01_CalendarClocks rfl ?_
      repeat' ((conv => whnf); first
        | (refine Br.tt ?_)
        | (refine Br.ff ?_)
        | (refine Need.mk (by first | omega | (simp; done) | (simp; omega)) ?_)
        | (refine Wr.keep (by omega) ?_)
        | (refine Cmp.tt (by first | omega | decide) ?_)
        | (refine Cmp.ff (by first | omega | decide) ?_)
        | (refine Rem.pos (by omega) ?_)
        | (refine Quo.pos (by omega) ?_)
        | (refine PickV.now rfl ?_)
        | (refine Pick.now rfl ?_)
        | (refine PickW.now (by first | omega | decide) rfl ?_)
        | (apply CallI.of; assumption)
        | (refine Cmp.mk (fun h => ?_) (fun h => ?_))
        | (refine Rem.any (by omega) (fun r hr he => ?_))
        | (refine Br.mk (fun h => ?_) (fun h => ?_))
        | (refine Ret.mk rfl))
  · rw [decide_eq_false hs] at sh
    refine g.fn code_law01_CalendarClocks rfl ?_
    repeat' ((conv => whnf); first
      | (refine Br.tt ?_)
      | (refine Br.ff ?_)
      | (refine Need.mk (by first | omega | (simp; done) | (simp; omega)) ?_)
      | (refine Wr.keep (by omega) ?_)
      | (refine Cmp.tt (by first | omega | decide) ?_)
      | (refine Cmp.ff (by first | omega | decide) ?_)
      | (refine Rem.pos (by omega) ?_)
      | (refine Quo.pos (by omega) ?_)
      | (refine PickV.now rfl ?_)
      | (refine Pick.now rfl ?_)
      | (refine PickW.now (by first | omega | decide) rfl ?_)
      | (apply CallI.of; assumption)
      | (refine Ret.mk rfl))
end

theorem s_CalendarClocks {E : Oracle} (g : Good E) {xs : List D} (h : fitArgs Tryz.prog [24, 3] xs) (hb : smallL 1048576 xs) : Fc E n_law01_CalendarClocks (asV xs) (B true) := by
  obtain ⟨x, y, rfl, h1, h2⟩ := args2 h
  obtain ⟨o, l, rfl⟩ := arg_Zone h1
  obtain ⟨m, rfl, _⟩ := arg_int h2
  exact w_CalendarClocks g o l m hb.1.2.1.1
end Go.Proofs.YtlboecjgelnabaaGreatDoor.Co

