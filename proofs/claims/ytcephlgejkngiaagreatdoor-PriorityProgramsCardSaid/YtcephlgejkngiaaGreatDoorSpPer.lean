
/-
  The days of a period: what the program's functions give.
-/
import Derived.Test.YtcephlgejkngiaaGreatDoorSpDate
import Derived.Test.YtcephlgejkngiaaGreatDoorSpInm
namespace Go.Proofs.YtcephlgejkngiaaGreatDoor.Co
open Go Go.Evl
def daysP (f d : Int) : Nat → List Int
  | 0 => []
  | k + 1 => daysP f d k ++ (if inM d ((f + k + 5) % 7) then [f + k] else [])
theorem daysP_length (f d : Int) : ∀ k : Nat, (daysP f d k).length ≤ k
  | 0 => Nat.le_refl _
  | k + 1 => by
    have := daysP_length f d k
    simp only [daysP, List.length_append]
    split <;> simp <;> omega
def rngAsg : C := .reg false [⟨some 6, none, .mv (.t 8)⟩] [8]
def rngBdy : C := .block 1 (.seq (.reg false [
⟨some 9, none, .load none (.t 3)⟩,
⟨some 10, none, .mv (.t 6)⟩,
⟨some 11, none, .call true true (.t 9) [.t 10]⟩] [3, 9, 10])
(.cond (.t 11) (.reg false [
⟨some 12, none, .load none (.t 5)⟩,
⟨some 13, none, .mv (.t 6)⟩,
⟨some 14, none, .mkList 1 1 [.t 13]⟩,
⟨some 15, none, .append ⟨false, ty_int, 1, 8⟩ (.t 12) (.t 14)⟩,
⟨none, none, .store 1 (.t 5) (.t 15)⟩] [5, 6, 12, 13, 14, 15])
 .skip))
section
variable {E : Oracle} (g : Good E)
include g
theorem s_DaysOf_ok (f t d : Int) (h : chkPer f t d = 0) : Fc E n_calendar_DaysOf [Per f t d] (.tup [LI (daysP f d (t - f + 1).toNat), I 0]) := by
  refine g.fn code_calendar_DaysOf rfl ?_
  have hc := s_CheckPeriod g f t d
  rw [h] at hc
  have hb := chkPer_zero.1 h
  repeat' ((conv => whnf); first
  | refine Br.tt ?_ | refine Br.ff ?_ | refine Need.w ?_ | refine Wr.w ?_ | refine Cmp.t ?_ | refine Cmp.f ?_ | refine Rem.w ?_ | refine Quo.w ?_ | refine PickV.now rfl ?_ | refine Pick.now rfl ?_ | refine Chk.mk rfl ?_ | refine PickW.w rfl ?_
    | (refine CallI.of hc ?_)
    | (refine CallS.of (In.enter g.lim rfl code_calendar_daysOf ?_))
    | (refine ⟨(.fn n_calendar_daysOf_1 [] [.ptr ⟨0, 11, 0⟩ 0 0], [(⟨0, 1, 0⟩, .cells ty_api_Period [I f, I t, I d]), (⟨0, 11, 0⟩, .cells ty_api_Period [I f, I t, I d])]), rfl, ?_⟩)
    | (refine In.enter g.lim rfl code_calendar_collected_int ?_)
    | (refine In.enter g.lim rfl code_calendar_daysOf_1 ?_))
  refine LoopW.to (LoopW.up g (fun k => [(0, .yld ⟨1, 18, 0⟩), (1, .ptr ⟨0, 11, 0⟩ 0 0), (3, I (f + k))]) (fun k => [(⟨0, 1, 0⟩, .cells ty_api_Period [I f, I t, I d]), (⟨0, 11, 0⟩, .cells ty_api_Period [I f, I t, I d]),
    (⟨1, 3, 0⟩, .cells ty_func_int_bool [.fn n_calendar_DaysOf_1 [] []]), (⟨1, 4, 0⟩, .row false ty_int 1 0 []), (⟨1, 5, 0⟩, .row false ty_int 1 (daysP f d k).length ((daysP f d k).map DI)), (⟨1, 5, 1⟩, .cells ty_Lint [.ref ⟨1, 5, 0⟩ 0 (daysP f d k).length (daysP f d k).length]),
    (⟨1, 18, 0⟩, .loop [(3, .ptr ⟨1, 3, 0⟩ 0 0), (4, .ref ⟨1, 4, 0⟩ 0 0 0), (5, .ptr ⟨1, 5, 1⟩ 0 0), (7, .fn n_calendar_daysOf_1 [] [.ptr ⟨0, 11, 0⟩ 0 0])] [8] rngAsg rngBdy 1 false false none)]) (t - f + 1).toNat (fun k hk ih => ?_) 0 (Nat.zero_le _)) (by simp) rfl
  have hlen := daysP_length f d k
  by_cases hlt : k < (t - f + 1).toNat
  · have hin := s_inMask g d ((f + k + 5) % 7) (by omega) (by omega)
    by_cases hc : inM d ((f + k + 5) % 7) = true
    · rw [hc] at hin
      repeat' ((conv => whnf); first
      | refine Br.tt ?_ | refine Br.ff ?_ | refine Need.w ?_ | refine Wr.w ?_ | refine Cmp.t ?_ | refine Cmp.f ?_ | refine Rem.w ?_ | refine Quo.w ?_ | refine PickV.now rfl ?_ | refine Pick.now rfl ?_ | refine Chk.mk rfl ?_ | refine PickW.w rfl ?_
        | (refine CallI.of (s_weekday g _ (by omega)) ?_)
        | (refine CallI.of hin ?_)
        | (refine Rnd.enter g.lim ?_)
        | (refine In.enter g.lim rfl code_calendar_DaysOf_1 ?_)
        | (refine LoopW.to (ih hlt) ?_ ?_))
      · simp; omega
      · simp [daysP, hc]
    · rw [Bool.not_eq_true] at hc
      rw [hc] at hin
      repeat' ((conv => whnf); first
      | refine Br.tt ?_ | refine Br.ff ?_ | refine Need.w ?_ | refine Wr.w ?_ | refine Cmp.t ?_ | refine Cmp.f ?_ | refine Rem.w ?_ | refine Quo.w ?_ | refine PickV.now rfl ?_ | refine Pick.now rfl ?_ | refine Chk.mk rfl ?_ | refine PickW.w rfl ?_
        | (refine CallI.of (s_weekday g _ (by omega)) ?_)
        | (refine CallI.of hin ?_)
        | (refine LoopW.to (ih hlt) ?_ ?_))
      · simp; omega
      · simp [daysP, hc]
  · have hk' : k = (t - f + 1).toNat := by omega
    repeat' ((conv => whnf); first
    | refine Br.tt ?_ | refine Br.ff ?_ | refine Need.w ?_ | refine Wr.w ?_ | refine Cmp.t ?_ | refine Cmp.f ?_ | refine Rem.w ?_ | refine Quo.w ?_ | refine PickV.now rfl ?_ | refine Pick.now rfl ?_ | refine Chk.mk rfl ?_ | refine PickW.w rfl ?_
      | (refine Ret.mk ?_))
    simp [hk']
end
end Go.Proofs.YtcephlgejkngiaaGreatDoor.Co
