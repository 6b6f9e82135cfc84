
/-
  Zones with summer time, the plain law: local noon comes once each day.
-/
import Derived.Test.YtddpjjaebkaggabGreatDoorPlZones
namespace Go.Proofs.YtddpjjaebkaggabGreatDoor.Co
open Go Go.Evl
theorem noon {o y day : Int} (hy : 2000 ≤ y ∧ y ≤ 2272) (ho : -599 ≤ o ∧ o ≤ 599) (hd : 0 ≤ day ∧ day ≤ 99990) :
    uniA o (sumL o y 1) (1440 * day + 720) = [1440 * day + 720 - o - if sunM y 3 ≤ day ∧ day < sunM y 10 then 60 else 0] := by
  have hf := sunM_facts y hy
  refine strict_ext (uniA_strict o _ _) (by simp) fun x => ?_
  have ha := sum1_at o y x hy
  rw [uniA_mem, sumL_length, List.mem_singleton, ha]
  split <;> split <;> omega
theorem noon_back {o y day u : Int} (hy : 2000 ≤ y ∧ y ≤ 2272) (ho : -599 ≤ o ∧ o ≤ 599) (hd : 0 ≤ day ∧ day ≤ 99990)
    (hu : u = 1440 * day + 720 - o - if sunM y 3 ≤ day ∧ day < sunM y 10 then 60 else 0) : (0 ≤ u ∧ u ≤ 143999999) ∧ u + atN o (sumL o y 1) u (sumL o y 1).length = 1440 * day + 720 := by
  have h : u ∈ uniA o (sumL o y 1) (1440 * day + 720) := by rw [noon hy ho hd, hu]; simp
  exact uniA_mem.1 h
end Go.Proofs.YtddpjjaebkaggabGreatDoor.Co
