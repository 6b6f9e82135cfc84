
/-
  Years, months, days: what the reference's functions give.
-/
import Derived.Test.YtlboecjgelnabaaGreatDoorSpDate
namespace Go.Proofs.YtlboecjgelnabaaGreatDoor.Co
open Go Go.Evl
section
variable {E : Oracle} (g : Good E)
include g

theorem r_leap (y : Int) (h : 0 ≤ y ∧ y ≤ 9223372036854775807) : Fc E n_ref01_leap [I y] (B (leapB y)) := by
  refine g.fn code_ref01_leap rfl ?_
  repeat' ((conv => whnf); first
    | (refine Br.tt ?_)
    | (refine Br.ff ?_)
    | (refine Need.mk (by first | omega | (simp; done) | (simp; omega)) ?_)
    | (refine Wr.keep (by omega) ?_)
    | (refine Cmp.tt (by first | omega | decide) ?_)
    | (refine Cmp.ff (by first | omega | decide) ?_)
    | (refine Rem.pos (by omega) ?_)
    | (refine Quo.pos (by omega) ?_)
    | (refine PickV.now rfl ?_)
    | (refine Pick.now rfl ?_)
    | (refine PickW.now (by first | omega | decide) rfl ?_)
    | (refine Cmp.mk (fun h => ?_) (fun h => ?_))
    | (refine Rem.any (by omega) (fun r hr he => ?_))
    | (refine Br.mk (fun h => ?_) (fun h => ?_))
    | (refine Ret.mk ?_))
  all_goals (simp only [leapB, V.d.injEq, D.bool.injEq]; rw [eq_comm]; simp; omega)

theorem r_yearLength (y : Int) (h : 0 ≤ y ∧ y ≤ 9223372036854775807) : Fc E n_ref01_yearLength [I y] (I (lenY y)) := by
  refine g.fn code_ref01_yearLength rfl ?_
  have hs := r_leap g y h
  unfold lenY
  generalize leapB y = b at hs ⊢
  cases b
  all_goals repeat' ((conv => whnf); first
    | (refine Br.tt ?_)
    | (refine Br.ff ?_)
    | (refine Need.mk (by first | omega | (simp; done) | (simp; omega)) ?_)
    | (refine Wr.keep (by omega) ?_)
    | (refine Cmp.tt (by first | omega | decide) ?_)
    | (refine Cmp.ff (by first | omega | decide) ?_)
    | (refine Rem.pos (by omega) ?_)
    | (refine Quo.pos (by omega) ?_)
    | (refine PickV.now rfl ?_)
    | (refine Pick.now rfl ?_)
    | (refine PickW.now (by first | omega | decide) rfl ?_)
    | (refine CallI.of hs ?_)
    | (refine Ret.mk rfl))

theorem r_Length (y m : Int) (h : 0 ≤ y ∧ y ≤ 9223372036854775807) (hm : 1 ≤ m ∧ m ≤ 12) : Fc E n_ref01_Length [I y, I m] (I (lenM y m)) := by
  refine g.fn code_ref01_Length rfl ?_
  have hs := r_leap g y h
  have hc : m = 1 ∨ m = 2 ∨ m = 3 ∨ m = 4 ∨ m = 5 ∨ m = 6 ∨ m = 7 ∨ m = 8 ∨ m = 9 ∨ m = 10 ∨ m = 11 ∨ m = 12 := by omega
  unfold lenM
  generalize leapB y = b at hs ⊢
  cases b
  all_goals rcases hc with rfl | rfl | rfl | rfl | rfl | rfl | rfl | rfl | rfl | rfl | rfl | rfl
  all_goals repeat' ((conv => whnf); first
    | (refine Br.tt ?_)
    | (refine Br.ff ?_)
    | (refine Need.mk (by first | omega | (simp; done) | (simp; omega)) ?_)
    | (refine Wr.keep (by omega) ?_)
    | (refine Cmp.tt (by first | omega | decide) ?_)
    | (refine Cmp.ff (by first | omega | decide) ?_)
    | (refine Rem.pos (by omega) ?_)
    | (refine Quo.pos (by omega) ?_)
    | (refine PickV.now rfl ?_)
    | (refine Pick.now rfl ?_)
    | (refine PickW.now (by first | omega | decide) rfl ?_)
    | (refine CallI.of hs ?_)
    | (refine Ret.mk rfl))

theorem r_Day (y m d : Int) (hy : 2000 ≤ y ∧ y ≤ 3000) (hm : 1 ≤ m ∧ m ≤ 12) (hd : 0 ≤ d ∧ d ≤ 100) : Fc E n_ref01_Day [I y, I m, I d] (I (dayN y m d)) := by
  refine g.fn code_ref01_Day rfl ?_
  repeat' ((conv => whnf); first
    | (refine Br.tt ?_)
    | (refine Br.ff ?_)
    | (refine Need.mk (by first | omega | (simp; done) | (simp; omega)) ?_)
    | (refine Wr.keep (by omega) ?_)
    | (refine Cmp.tt (by first | omega | decide) ?_)
    | (refine Cmp.ff (by first | omega | decide) ?_)
    | (refine Rem.pos (by omega) ?_)
    | (refine Quo.pos (by omega) ?_)
    | (refine PickV.now rfl ?_)
    | (refine Pick.now rfl ?_)
    | (refine PickW.now (by first | omega | decide) rfl ?_))
  refine LoopW.to (LoopW.up g (fun j => [(0, I y), (1, I m), (7, I (d - 1 + daysM y j)), (8, I (j + 1))]) (fun _ => []) (m - 1).toNat (fun j hj ih' => ?_) 0 (Nat.zero_le _)) (by simp [daysM]) rfl
  have h3 := daysM_le y j
  by_cases hlt' : j < (m - 1).toNat
  · have h2 := lenM_le y (j + 1)
    repeat' ((conv => whnf); first
      | (refine Br.tt ?_)
      | (refine Br.ff ?_)
      | (refine Need.mk (by first | omega | (simp; done) | (simp; omega)) ?_)
      | (refine Wr.keep (by omega) ?_)
      | (refine Cmp.tt (by first | omega | decide) ?_)
      | (refine Cmp.ff (by first | omega | decide) ?_)
      | (refine Rem.pos (by omega) ?_)
      | (refine Quo.pos (by omega) ?_)
      | (refine PickV.now rfl ?_)
      | (refine Pick.now rfl ?_)
      | (refine PickW.now (by first | omega | decide) rfl ?_)
      | (refine CallI.of (r_Length g _ _ (by omega) (by omega)) ?_)
      | (refine LoopW.to (ih' hlt') ?_ rfl))
    simp [daysM]; omega
  · have hj : j = (m - 1).toNat := by omega
    have h3' := daysM_le y (m - 1).toNat
    repeat' ((conv => whnf); first
      | (refine Br.tt ?_)
      | (refine Br.ff ?_)
      | (refine Need.mk (by first | omega | (simp; done) | (simp; omega)) ?_)
      | (refine Wr.keep (by omega) ?_)
      | (refine Cmp.tt (by first | omega | decide) ?_)
      | (refine Cmp.ff (by first | omega | decide) ?_)
      | (refine Rem.pos (by omega) ?_)
      | (refine Quo.pos (by omega) ?_)
      | (refine PickV.now rfl ?_)
      | (refine Pick.now rfl ?_)
      | (refine PickW.now (by first | omega | decide) rfl ?_))
    refine LoopW.to (LoopW.up g (fun k => [(0, I y), (7, I (d - 1 + daysM y (m - 1).toNat + daysY k)), (9, I (2000 + k))]) (fun _ => []) (y - 2000).toNat (fun k hk ih => ?_) 0 (Nat.zero_le _)) (by simp [daysY, hj]) rfl
    have h1 := daysY_le k
    by_cases hlt : k < (y - 2000).toNat
    · have h2 := lenY_le (2000 + k)
      repeat' ((conv => whnf); first
        | (refine Br.tt ?_)
        | (refine Br.ff ?_)
        | (refine Need.mk (by first | omega | (simp; done) | (simp; omega)) ?_)
        | (refine Wr.keep (by omega) ?_)
        | (refine Cmp.tt (by first | omega | decide) ?_)
        | (refine Cmp.ff (by first | omega | decide) ?_)
        | (refine Rem.pos (by omega) ?_)
        | (refine Quo.pos (by omega) ?_)
        | (refine PickV.now rfl ?_)
        | (refine Pick.now rfl ?_)
        | (refine PickW.now (by first | omega | decide) rfl ?_)
        | (refine CallI.of (r_yearLength g _ (by omega)) ?_)
        | (refine LoopW.to (ih hlt) ?_ rfl))
      simp [daysY];  omega
    · have hk : k = (y - 2000).toNat := by omega
      repeat' ((conv => whnf); first
        | (refine Br.tt ?_)
        | (refine Br.ff ?_)
        | (refine Need.mk (by first | omega | (simp; done) | (simp; omega)) ?_)
        | (refine Wr.keep (by omega) ?_)
        | (refine Cmp.tt (by first | omega | decide) ?_)
        | (refine Cmp.ff (by first | omega | decide) ?_)
        | (refine Rem.pos (by omega) ?_)
        | (refine Quo.pos (by omega) ?_)
        | (refine PickV.now rfl ?_)
        | (refine Pick.now rfl ?_)
        | (refine PickW.now (by first | omega | decide) rfl ?_)
        | (refine Ret.mk ?_))
      simp [dayN, hk]; omega

end
end Go.Proofs.YtlboecjgelnabaaGreatDoor.Co

