
/-
  The days of a period, the common days of two: the program's and the reference's.
-/
import Derived.Test.YtcephlgejkngiaaGreatDoorSpPer
namespace Go.Proofs.YtcephlgejkngiaaGreatDoor.Co
open Go Go.Evl
def hasB (f t d day : Int) : Bool := decide (f ≤ day) && (decide (day ≤ t) && inM d ((day + 5) % 7))
def meetP (q : Int → Bool) (f d : Int) : Nat → List Int
  | 0 => []
  | k + 1 => meetP q f d k ++ (if inM d ((f + k + 5) % 7) && q (f + k) then [f + k] else [])
theorem meetP_length (q : Int → Bool) (f d : Int) : ∀ k : Nat, (meetP q f d k).length ≤ k
  | 0 => Nat.le_refl _
  | k + 1 => by
    have := meetP_length q f d k
    simp only [meetP, List.length_append]
    split <;> simp <;> omega
section
variable {E : Oracle} (g : Good E)
include g
theorem s_has (f t d day : Int) (hd : 0 ≤ d ∧ d ≤ 127) (h : 0 ≤ day ∧ day ≤ 1000000) : Fc E n_calendar_has [Per f t d, I day] (B (hasB f t d day)) := by
  refine g.fn code_calendar_has rfl ?_
  have hin := s_inMask g d ((day + 5) % 7) hd (by omega)
  unfold hasB
  generalize inM d ((day + 5) % 7) = b at *
  by_cases h1 : f ≤ day
  · by_cases h2 : day ≤ t
    all_goals repeat' ((conv => whnf); first
    | refine Br.tt ?_ | refine Br.ff ?_ | refine Need.w ?_ | refine Wr.w ?_ | refine Cmp.t ?_ | refine Cmp.f ?_ | refine Rem.w ?_ | refine Quo.w ?_ | refine PickV.now rfl ?_ | refine Pick.now rfl ?_ | refine Chk.mk rfl ?_ | refine PickW.w rfl ?_
      | (refine CallI.of (s_weekday g _ h) ?_)
      | (refine CallI.of hin ?_)
      | (refine Ret.mk ?_))
    all_goals simp [h1, h2]
  · repeat' ((conv => whnf); first
  | refine Br.tt ?_ | refine Br.ff ?_ | refine Need.w ?_ | refine Wr.w ?_ | refine Cmp.t ?_ | refine Cmp.f ?_ | refine Rem.w ?_ | refine Quo.w ?_ | refine PickV.now rfl ?_ | refine Pick.now rfl ?_ | refine Chk.mk rfl ?_ | refine PickW.w rfl ?_
      | (refine Ret.mk ?_))
    simp [h1]
theorem r_Has (f t d day : Int) (hd : 0 ≤ d ∧ d ≤ 127) (h : 0 ≤ day ∧ day ≤ 1000000) : Fc E n_ref01_Has [Per f t d, I day] (B (hasB f t d day)) := by
  refine g.fn code_ref01_Has rfl ?_
  have hin := r_InMask g d ((day + 5) % 7) hd (by omega)
  unfold hasB
  generalize inM d ((day + 5) % 7) = b at *
  by_cases h1 : f ≤ day
  · by_cases h2 : day ≤ t
    all_goals repeat' ((conv => whnf); first
    | refine Br.tt ?_ | refine Br.ff ?_ | refine Need.w ?_ | refine Wr.w ?_ | refine Cmp.t ?_ | refine Cmp.f ?_ | refine Rem.w ?_ | refine Quo.w ?_ | refine PickV.now rfl ?_ | refine Pick.now rfl ?_ | refine Chk.mk rfl ?_ | refine PickW.w rfl ?_
      | (refine CallI.of (r_Weekday g _ h) ?_)
      | (refine CallI.of hin ?_)
      | (refine Ret.mk ?_))
    all_goals simp [h1, h2]
  · repeat' ((conv => whnf); first
  | refine Br.tt ?_ | refine Br.ff ?_ | refine Need.w ?_ | refine Wr.w ?_ | refine Cmp.t ?_ | refine Cmp.f ?_ | refine Rem.w ?_ | refine Quo.w ?_ | refine PickV.now rfl ?_ | refine Pick.now rfl ?_ | refine Chk.mk rfl ?_ | refine PickW.w rfl ?_
      | (refine Ret.mk ?_))
    simp [h1]
theorem s_DaysOf_bad (f t d : Int) (h : chkPer f t d ≠ 0) : Fc E n_calendar_DaysOf [Per f t d] (.tup [LI [], I (chkPer f t d)]) := by
  refine g.fn code_calendar_DaysOf rfl ?_
  repeat' ((conv => whnf); first
  | refine Br.tt ?_ | refine Br.ff ?_ | refine Need.w ?_ | refine Wr.w ?_ | refine Cmp.t ?_ | refine Cmp.f ?_ | refine Rem.w ?_ | refine Quo.w ?_ | refine PickV.now rfl ?_ | refine Pick.now rfl ?_ | refine Chk.mk rfl ?_ | refine PickW.w rfl ?_
    | (refine CallI.of (s_CheckPeriod g _ _ _) ?_)
    | (refine Ret.mk rfl))
theorem s_Has_ok (f t d day : Int) (h : chkPer f t d = 0) (h2 : rng day 0 99999 = 0) : Fc E n_calendar_Has [Per f t d, I day] (.tup [B (hasB f t d day), I 0]) := by
  refine g.fn code_calendar_Has rfl ?_
  have hc := s_CheckPeriod g f t d
  have hc2 := s_checkDay g day
  rw [h] at hc
  rw [h2] at hc2
  have hb := chkPer_zero.1 h
  have hb2 := rng_zero.1 h2
  have hf : Fc E n_calendar_first [.d (.list 2 [DI 0, DI 0])] (I 0) := s_first2 g 0 0
  repeat' ((conv => whnf); first
  | refine Br.tt ?_ | refine Br.ff ?_ | refine Need.w ?_ | refine Wr.w ?_ | refine Cmp.t ?_ | refine Cmp.f ?_ | refine Rem.w ?_ | refine Quo.w ?_ | refine PickV.now rfl ?_ | refine Pick.now rfl ?_ | refine Chk.mk rfl ?_ | refine PickW.w rfl ?_
    | (refine CallI.of hc ?_)
    | (refine CallI.of hc2 ?_)
    | (refine CallI.of hf ?_)
    | (refine CallI.of (s_has g _ _ _ _ (by omega) (by omega)) ?_)
    | (refine Ret.mk rfl))
theorem s_Has_bad (f t d day : Int) (h : firstI [chkPer f t d, rng day 0 99999] ≠ 0) : Fc E n_calendar_Has [Per f t d, I day] (.tup [B false, I (firstI [chkPer f t d, rng day 0 99999])]) := by
  refine g.fn code_calendar_Has rfl ?_
  repeat' ((conv => whnf); first
  | refine Br.tt ?_ | refine Br.ff ?_ | refine Need.w ?_ | refine Wr.w ?_ | refine Cmp.t ?_ | refine Cmp.f ?_ | refine Rem.w ?_ | refine Quo.w ?_ | refine PickV.now rfl ?_ | refine Pick.now rfl ?_ | refine Chk.mk rfl ?_ | refine PickW.w rfl ?_
    | (refine CallI.of (s_CheckPeriod g _ _ _) ?_)
    | (refine CallI.of (s_checkDay g _) ?_)
    | (refine CallI.of (s_first2 g _ _) ?_)
    | (refine Ret.mk rfl))
theorem s_Count (f t d : Int) (l : List Int) (e : Int) (h : Fc E n_calendar_DaysOf [Per f t d] (.tup [LI l, I e])) : Fc E n_calendar_Count [Per f t d] (.tup [I l.length, I e]) := by
  refine g.fn code_calendar_Count rfl ?_
  repeat' ((conv => whnf); first
  | refine Br.tt ?_ | refine Br.ff ?_ | refine Need.w ?_ | refine Wr.w ?_ | refine Cmp.t ?_ | refine Cmp.f ?_ | refine Rem.w ?_ | refine Quo.w ?_ | refine PickV.now rfl ?_ | refine Pick.now rfl ?_ | refine Chk.mk rfl ?_ | refine PickW.w rfl ?_
    | (refine CallI.of h ?_)
    | (refine Ret.mk rfl))
theorem r_DaysOf (f t d : Int) (h : chkPer f t d = 0) : Fc E n_ref01_DaysOf [Per f t d] (LI (daysP f d (t - f + 1).toNat)) := by
  refine g.fn code_ref01_DaysOf rfl ?_
  have hb := chkPer_zero.1 h
  repeat' ((conv => whnf); first
  | refine Br.tt ?_ | refine Br.ff ?_ | refine Need.w ?_ | refine Wr.w ?_ | refine Cmp.t ?_ | refine Cmp.f ?_ | refine Rem.w ?_ | refine Quo.w ?_ | refine PickV.now rfl ?_ | refine Pick.now rfl ?_ | refine Chk.mk rfl ?_ | refine PickW.w rfl ?_)
  refine LoopW.to (LoopW.up g (fun k => [(1, .ptr ⟨0, 1, 0⟩ 0 0), (3, .ref ⟨0, 3, 0⟩ 0 (daysP f d k).length (daysP f d k).length), (4, I (f + k))])
    (fun k => [(⟨0, 1, 0⟩, .cells ty_api_Period [I f, I t, I d]), (⟨0, 2, 0⟩, .row false ty_int 1 0 []), (⟨0, 3, 0⟩, .row false ty_int 1 (daysP f d k).length ((daysP f d k).map DI))]) (t - f + 1).toNat (fun k hk ih => ?_) 0 (Nat.zero_le _)) (by simp [daysP]) rfl
  have hlen := daysP_length f d k
  by_cases hlt : k < (t - f + 1).toNat
  · have hh := r_Has g f t d (f + k) (by omega) (by omega)
    have he : hasB f t d (f + k) = inM d ((f + k + 5) % 7) := by
      simp only [hasB, decide_eq_true (show f ≤ f + (k : Int) by omega), decide_eq_true (show f + (k : Int) ≤ t by omega), Bool.true_and]
    rw [he] at hh
    by_cases hc : inM d ((f + k + 5) % 7) = true
    · rw [hc] at hh
      repeat' ((conv => whnf); first
      | refine Br.tt ?_ | refine Br.ff ?_ | refine Need.w ?_ | refine Wr.w ?_ | refine Cmp.t ?_ | refine Cmp.f ?_ | refine Rem.w ?_ | refine Quo.w ?_ | refine PickV.now rfl ?_ | refine Pick.now rfl ?_ | refine Chk.mk rfl ?_ | refine PickW.w rfl ?_
        | (refine CallI.of hh ?_)
        | (refine LoopW.to (ih hlt) ?_ ?_))
      · simp [daysP, hc]; omega
      · simp [daysP, hc]
    · rw [Bool.not_eq_true] at hc
      rw [hc] at hh
      repeat' ((conv => whnf); first
      | refine Br.tt ?_ | refine Br.ff ?_ | refine Need.w ?_ | refine Wr.w ?_ | refine Cmp.t ?_ | refine Cmp.f ?_ | refine Rem.w ?_ | refine Quo.w ?_ | refine PickV.now rfl ?_ | refine Pick.now rfl ?_ | refine Chk.mk rfl ?_ | refine PickW.w rfl ?_
        | (refine CallI.of hh ?_)
        | (refine LoopW.to (ih hlt) ?_ ?_))
      · simp [daysP, hc]; omega
      · simp [daysP, hc]
  · have hk' : k = (t - f + 1).toNat := by omega
    repeat' ((conv => whnf); first
    | refine Br.tt ?_ | refine Br.ff ?_ | refine Need.w ?_ | refine Wr.w ?_ | refine Cmp.t ?_ | refine Cmp.f ?_ | refine Rem.w ?_ | refine Quo.w ?_ | refine PickV.now rfl ?_ | refine Pick.now rfl ?_ | refine Chk.mk rfl ?_ | refine PickW.w rfl ?_
      | (refine Ret.mk ?_))
    simp [hk']
end
end Go.Proofs.YtcephlgejkngiaaGreatDoor.Co
