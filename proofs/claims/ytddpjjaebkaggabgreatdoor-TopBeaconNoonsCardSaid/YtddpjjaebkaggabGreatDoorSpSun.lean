
/-
  Sundays, and zones with summer time.
-/
import Derived.Test.YtddpjjaebkaggabGreatDoorSpDate
import Derived.Test.YtddpjjaebkaggabGreatDoorSpDateR
namespace Go.Proofs.YtddpjjaebkaggabGreatDoor.Co
open Go Go.Evl
def sun (d : Int) : Int := d - ((d + 5) % 7 + 1) % 7
def sunM (y m : Int) : Int := sun (dayN y m 31)
theorem sun_le (d : Int) : d - 6 ≤ sun d ∧ sun d ≤ d := by unfold sun; omega
theorem dayN_le (y m d : Int) (hy : 2000 ≤ y ∧ y ≤ 3000) (hm : 1 ≤ m ∧ m ≤ 12) (hd : 0 ≤ d ∧ d ≤ 100) : d - 1 + 28 * (m - 1) ≤ dayN y m d ∧ dayN y m d ≤ 400000 := by
  have h1 := daysY_le (y - 2000).toNat
  have h2 := daysM_le y (m - 1).toNat
  unfold dayN
  omega
def cellC (c : Int × Int) : List D := [DI c.1, DI c.2]
theorem flatC_take {l : List (Int × Int)} {k : Nat} (h : k < l.length) : (l.take (k + 1)).flatMap cellC = (l.take k).flatMap cellC ++ cellC (l[k]) := by
  rw [List.take_add_one, List.flatMap_append, List.getElem?_eq_getElem h]
  simp
abbrev Zo (o : Int) (l : List (Int × Int)) : V := .d (.agg [DI o, .list l.length (l.flatMap cellC)])
theorem flatC_length (l : List (Int × Int)) : (l.flatMap cellC).length = 2 * l.length := by
  induction l with
  | nil => rfl
  | cons c r ih => simp [List.flatMap_cons, cellC] at ih ⊢; omega
theorem winC (l : List (Int × Int)) (k : Nat) (h : k < l.length) : win (l.flatMap cellC) (k * 2) 2 = cellC (l[k]) := by
  induction l generalizing k with
  | nil => simp at h
  | cons c r ih =>
    cases k with
    | zero => simp [win, cellC, List.flatMap_cons]
    | succ k =>
      have := ih k (by simpa using h)
      simp only [win, List.flatMap_cons] at this ⊢
      rw [show (k + 1) * 2 = 2 + k * 2 by omega, ← List.drop_drop]
      simpa [cellC] using this
theorem PickW.chg {l : List (Int × Int)} {k : Nat} {K : List D → Prop} (h : k < l.length) (hk : K (cellC (l[k]))) : PickW (l.flatMap cellC) ((k : Int).toNat * 2) 2 K := by
  have := flatC_length l
  refine ⟨by rw [show (k : Int).toNat = k by simp]; omega, ?_⟩
  rw [show (k : Int).toNat = k by simp, winC l k h]
  exact hk
section
variable {E : Oracle} (g : Good E)
include g
theorem s_lastSunday (y m : Int) (hy : 2000 ≤ y ∧ y ≤ 3000) (hm : 1 ≤ m ∧ m ≤ 12) : Fc E n_calendar_lastSunday [I y, I m] (I (sunM y m)) := by
  refine g.fn code_calendar_lastSunday rfl ?_
  have h := dayN_le y m 31 hy hm (by omega)
  repeat' ((conv => whnf); first
  | refine Br.tt ?_
  | refine Br.ff ?_
  | refine Need.w ?_
  | refine Wr.w ?_
  | refine Cmp.t ?_
  | refine Cmp.f ?_
  | refine Rem.w ?_
  | refine Quo.w ?_
  | refine PickV.now rfl ?_
  | refine Pick.now rfl ?_
  | refine Chk.mk rfl ?_
  | refine PickW.w rfl ?_
    | (refine CallI.of (s_number g _ _ _ hy hm (by omega)) ?_)
    | (refine CallI.of (s_weekday g _ (by omega)) ?_)
    | (refine Ret.mk ?_))
  simp only [sunM, sun, V.d.injEq, D.int.injEq, true_and]
  omega
omit g in
def sumL (o f : Int) : Nat → List (Int × Int)
  | 0 => []
  | n + 1 => sumL o f n ++ [(1440 * sunM (f + n) 3 + 60, o + 60), (1440 * sunM (f + n) 10 + 60, o)]
omit g in
theorem sumL_length (o f : Int) : ∀ n, (sumL o f n).length = 2 * n
  | 0 => rfl
  | n + 1 => by simp [sumL, sumL_length o f n]; omega
omit g in
def chkSum (o f t : Int) : Int := if rng o (-720) 780 ≠ 0 ∨ rng f 2000 2272 ≠ 0 ∨ rng t 2000 2272 ≠ 0 then 3 else if t < f then 11 else if 32 < t - f + 1 then 5 else 0
omit g in
theorem chkSum_zero {o f t : Int} : chkSum o f t = 0 ↔ -720 ≤ o ∧ o ≤ 780 ∧ 2000 ≤ f ∧ t ≤ 2272 ∧ f ≤ t ∧ t - f ≤ 31 := by
  have h1 := @rng_zero o (-720) 780
  have h2 := @rng_zero f 2000 2272
  have h3 := @rng_zero t 2000 2272
  unfold chkSum
  repeat' split
  all_goals omega
theorem s_Summer_ok (o f t : Int) (h : chkSum o f t = 0) : Fc E n_calendar_Summer [I o, I f, I t] (.tup [Zo o (sumL o f (t - f + 1).toNat), I 0]) := by
  have hb := chkSum_zero.1 h
  refine g.fn code_calendar_Summer rfl ?_
  have k1 : firstI [rng o (-720) 780, rng f 2000 2272, rng t 2000 2272, if false = true then 11 else 0] = 0 := by
    simp only [firstI, (@rng_zero o (-720) 780).2 (by omega), (@rng_zero f 2000 2272).2 (by omega), (@rng_zero t 2000 2272).2 (by omega)]
    simp
  repeat' ((conv => whnf); first
  | refine Br.tt ?_
  | refine Br.ff ?_
  | refine Need.w ?_
  | refine Wr.w ?_
  | refine Cmp.t ?_
  | refine Cmp.f ?_
  | refine Rem.w ?_
  | refine Quo.w ?_
  | refine PickV.now rfl ?_
  | refine Pick.now rfl ?_
  | refine Chk.mk rfl ?_
  | refine PickW.w rfl ?_
    | (refine CallI.of (s_within g _ _ _) ?_)
    | (refine CallI.of (s_when g _ _) ?_)
    | (refine CallI.of (s_first4 g _ _ _ _) ?_))
  refine LoopW.to (LoopW.up g (fun k => [(0, I o), (1, I f), (6, .ptr ⟨0, 6, 1⟩ 0 0), (9, .ptr ⟨0, 9, 1⟩ 0 0), (38, I (t - f + 1)), (39, I k)])
    (fun k => [(⟨0, 6, 0⟩, .row false ty_calendar_Change 2 0 []), (⟨0, 6, 1⟩, .cells ty_calendar_Zone [I 0, .ref ⟨0, 6, 0⟩ 0 0 0]), (⟨0, 34, 0⟩, .row false ty_calendar_Change 2 (2 * k) ((sumL o f k).flatMap cellC)),
      (⟨0, 9, 0⟩, .row false ty_calendar_Change 2 0 []), (⟨0, 9, 1⟩, .cells ty_calendar_Zone [I o, .ref ⟨0, 34, 0⟩ 0 (2 * k) (2 * k)])]) (t - f + 1).toNat (fun k hk ih => ?_) 0 (Nat.zero_le _)) rfl rfl
  by_cases hlt : k < (t - f + 1).toNat
  · have e1 := dayN_le (f + k) 3 31 (by omega) (by omega) (by omega)
    have e2 := dayN_le (f + k) 10 31 (by omega) (by omega) (by omega)
    have e3 := sun_le (dayN (f + k) 3 31)
    have e4 := sun_le (dayN (f + k) 10 31)
    have e5 : 0 ≤ sunM (f + k) 3 ∧ sunM (f + k) 3 ≤ 400000 := by unfold sunM; omega
    have e6 : 0 ≤ sunM (f + k) 10 ∧ sunM (f + k) 10 ≤ 400000 := by unfold sunM; omega
    repeat' ((conv => whnf); first
    | refine Br.tt ?_
    | refine Br.ff ?_
    | refine Need.w ?_
    | refine Wr.w ?_
    | refine Cmp.t ?_
    | refine Cmp.f ?_
    | refine Rem.w ?_
    | refine Quo.w ?_
    | refine PickV.now rfl ?_
    | refine Pick.now rfl ?_
    | refine Chk.mk rfl ?_
    | refine PickW.w rfl ?_
      | (refine CallI.of (s_lastSunday g _ _ (by omega) (by omega)) ?_)
      | (refine LoopW.to (ih hlt) rfl ?_))
    simp [sumL, cellC, Nat.mul_add]
  · have hk : k = (t - f + 1).toNat := by omega
    repeat' ((conv => whnf); first
    | refine Br.tt ?_
    | refine Br.ff ?_
    | refine Need.w ?_
    | refine Wr.w ?_
    | refine Cmp.t ?_
    | refine Cmp.f ?_
    | refine Rem.w ?_
    | refine Quo.w ?_
    | refine PickV.now rfl ?_
    | refine Pick.now rfl ?_
    | refine Chk.mk rfl ?_
    | refine PickW.w rfl ?_
      | (refine Need.mk (by simp [win]; done) ?_)
      | (refine Ret.mk ?_))
    rw [hk]
    simp [sumL_length]
theorem s_Summer_bad (o f t : Int) (h : chkSum o f t ≠ 0) : Fc E n_calendar_Summer [I o, I f, I t] (.tup [Zo 0 [], I (chkSum o f t)]) := by
  refine g.fn code_calendar_Summer rfl ?_
  have h1 := @rng_zero o (-720) 780
  have h2 := @rng_zero f 2000 2272
  have h3 := @rng_zero t 2000 2272
  have h4 := @chkSum_zero o f t
  have r1 : rng o (-720) 780 = 0 ∨ rng o (-720) 780 = 3 := by unfold rng; split <;> simp
  have r2 : rng f 2000 2272 = 0 ∨ rng f 2000 2272 = 3 := by unfold rng; split <;> simp
  have r3 : rng t 2000 2272 = 0 ∨ rng t 2000 2272 = 3 := by unfold rng; split <;> simp
  by_cases hlt : t < f
  · have k1 : firstI [rng o (-720) 780, rng f 2000 2272, rng t 2000 2272, if true = true then 11 else 0] = chkSum o f t := by
      simp only [firstI, chkSum]
      rcases r1 with r1 | r1 <;> rcases r2 with r2 | r2 <;> rcases r3 with r3 | r3 <;> simp [r1, r2, r3, hlt]
    repeat' ((conv => whnf); first
    | refine Br.tt ?_
    | refine Br.ff ?_
    | refine Need.w ?_
    | refine Wr.w ?_
    | refine Cmp.t ?_
    | refine Cmp.f ?_
    | refine Rem.w ?_
    | refine Quo.w ?_
    | refine PickV.now rfl ?_
    | refine Pick.now rfl ?_
    | refine Chk.mk rfl ?_
    | refine PickW.w rfl ?_
      | (refine CallI.of (s_within g _ _ _) ?_)
      | (refine CallI.of (s_when g _ _) ?_)
      | (refine CallI.of (s_first4 g _ _ _ _) ?_)
      | (refine Need.mk (by simp [win]; done) ?_)
      | (refine Ret.mk ?_))
    simp at k1 ⊢
    exact k1
  · by_cases hz : firstI [rng o (-720) 780, rng f 2000 2272, rng t 2000 2272, if false = true then 11 else 0] = 0
    · have hz' : rng o (-720) 780 = 0 ∧ rng f 2000 2272 = 0 ∧ rng t 2000 2272 = 0 := by
        simp only [firstI] at hz
        rcases r1 with r1 | r1 <;> rcases r2 with r2 | r2 <;> rcases r3 with r3 | r3 <;> simp [r1, r2, r3] at hz ⊢
      have k5 : chkSum o f t = 5 := by
        have : 32 < t - f + 1 := by omega
        simp [chkSum, hz', hlt, this]
      repeat' ((conv => whnf); first
      | refine Br.tt ?_
      | refine Br.ff ?_
      | refine Need.w ?_
      | refine Wr.w ?_
      | refine Cmp.t ?_
      | refine Cmp.f ?_
      | refine Rem.w ?_
      | refine Quo.w ?_
      | refine PickV.now rfl ?_
      | refine Pick.now rfl ?_
      | refine Chk.mk rfl ?_
      | refine PickW.w rfl ?_
        | (refine CallI.of (s_within g _ _ _) ?_)
        | (refine CallI.of (s_when g _ _) ?_)
        | (refine CallI.of (s_first4 g _ _ _ _) ?_)
        | (refine Need.mk (by simp [win]; done) ?_)
        | (refine Ret.mk ?_))
      simp [k5]
    · have k1 : firstI [rng o (-720) 780, rng f 2000 2272, rng t 2000 2272, if false = true then 11 else 0] = chkSum o f t := by
        simp only [firstI, chkSum] at hz ⊢
        rcases r1 with r1 | r1 <;> rcases r2 with r2 | r2 <;> rcases r3 with r3 | r3 <;> simp [r1, r2, r3] at hz ⊢
      repeat' ((conv => whnf); first
      | refine Br.tt ?_
      | refine Br.ff ?_
      | refine Need.w ?_
      | refine Wr.w ?_
      | refine Cmp.t ?_
      | refine Cmp.f ?_
      | refine Rem.w ?_
      | refine Quo.w ?_
      | refine PickV.now rfl ?_
      | refine Pick.now rfl ?_
      | refine Chk.mk rfl ?_
      | refine PickW.w rfl ?_
        | (refine CallI.of (s_within g _ _ _) ?_)
        | (refine CallI.of (s_when g _ _) ?_)
        | (refine CallI.of (s_first4 g _ _ _ _) ?_)
        | (refine Need.mk (by simp [win]; done) ?_)
        | (refine Ret.mk ?_))
      simp at k1 ⊢
      exact k1
end
end Go.Proofs.YtddpjjaebkaggabGreatDoor.Co
