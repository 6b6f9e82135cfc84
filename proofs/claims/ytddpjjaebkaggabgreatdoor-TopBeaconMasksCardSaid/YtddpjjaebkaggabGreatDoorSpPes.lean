
/-
  The days of a period, the common days of two: the program's and the reference's.
-/
import Derived.Test.YtddpjjaebkaggabGreatDoorSpPer
namespace Go.Proofs.YtddpjjaebkaggabGreatDoor.Co
open Go Go.Evl
def hasB (f t d day : Int) : Bool := decide (f ≤ day) && (decide (day ≤ t) && inM d ((day + 5) % 7))
def meetP (q : Int → Bool) (f d : Int) : Nat → List Int
  | 0 => []
  | k + 1 => meetP q f d k ++ (if inM d ((f + k + 5) % 7) && q (f + k) then [f + k] else [])
theorem meetP_length (q : Int → Bool) (f d : Int) : ∀ k : Nat, (meetP q f d k).length ≤ k
  | 0 => Nat.le_refl _
  | k + 1 => by
    have := meetP_length q f d k
    simp only [meetP, List.length_append]
    split <;> simp <;> omega
section
variable {E : Oracle} (g : Good E)
include g
theorem s_has (f t d day : Int) (hd : 0 ≤ d ∧ d ≤ 127) (h : 0 ≤ day ∧ day ≤ 1000000) : Fc E n_calendar_has [Per f t d, I day] (B (hasB f t d day)) := by
  refine g.fn code_calendar_has rfl ?_
  have hin := s_inMask g d ((day + 5) % 7) hd (by omega)
  unfold hasB
  generalize inM d ((day + 5) % 7) = b at *
  by_cases h1 : f ≤ day
  · by_cases h2 : day ≤ t
    all_goals repeat' ((conv => whnf); first
    | refine Br.tt ?_
    | refine Br.ff ?_
    | refine Need.w ?_
    | refine Wr.w ?_
    | refine Cmp.t ?_
    | refine Cmp.f ?_
    | refine Rem.w ?_
    | refine Quo.w ?_
    | refine PickV.now rfl ?_
    | refine Pick.now rfl ?_
    | refine Chk.mk rfl ?_
    | refine PickW.w rfl ?_
      | (refine CallI.of (s_weekday g _ h) ?_)
      | (refine CallI.of hin ?_)
      | (refine Ret.mk ?_))
    all_goals simp [h1, h2]
  · repeat' ((conv => whnf); first
  | refine Br.tt ?_
  | refine Br.ff ?_
  | refine Need.w ?_
  | refine Wr.w ?_
  | refine Cmp.t ?_
  | refine Cmp.f ?_
  | refine Rem.w ?_
  | refine Quo.w ?_
  | refine PickV.now rfl ?_
  | refine Pick.now rfl ?_
  | refine Chk.mk rfl ?_
  | refine PickW.w rfl ?_
      | (refine Ret.mk ?_))
    simp [h1]
theorem s_DaysOf_bad (f t d : Int) (h : chkPer f t d ≠ 0) : Fc E n_calendar_DaysOf [Per f t d] (.tup [LI [], I (chkPer f t d)]) := by
  refine g.fn code_calendar_DaysOf rfl ?_
  repeat' ((conv => whnf); first
  | refine Br.tt ?_
  | refine Br.ff ?_
  | refine Need.w ?_
  | refine Wr.w ?_
  | refine Cmp.t ?_
  | refine Cmp.f ?_
  | refine Rem.w ?_
  | refine Quo.w ?_
  | refine PickV.now rfl ?_
  | refine Pick.now rfl ?_
  | refine Chk.mk rfl ?_
  | refine PickW.w rfl ?_
    | (refine CallI.of (s_CheckPeriod g _ _ _) ?_)
    | (refine Ret.mk rfl))
theorem s_Meet_ok (f t d f2 t2 d2 : Int) (h : chkPer f t d = 0) (h2 : chkPer f2 t2 d2 = 0) : Fc E n_calendar_Meet [Per f t d, Per f2 t2 d2] (.tup [LI (meetP (hasB f2 t2 d2) f d (t - f + 1).toNat), I 0]) := by
  refine g.fn code_calendar_Meet rfl ?_
  have hc := s_CheckPeriod g f t d
  have hc2 := s_CheckPeriod g f2 t2 d2
  rw [h] at hc
  rw [h2] at hc2
  have hb := chkPer_zero.1 h
  have hb2 := chkPer_zero.1 h2
  have hf : Fc E n_calendar_first [.d (.list 2 [DI 0, DI 0])] (I 0) := s_first2 g 0 0
  repeat' ((conv => whnf); first
  | refine Br.tt ?_
  | refine Br.ff ?_
  | refine Need.w ?_
  | refine Wr.w ?_
  | refine Cmp.t ?_
  | refine Cmp.f ?_
  | refine Rem.w ?_
  | refine Quo.w ?_
  | refine PickV.now rfl ?_
  | refine Pick.now rfl ?_
  | refine Chk.mk rfl ?_
  | refine PickW.w rfl ?_
    | (refine CallI.of hc ?_)
    | (refine CallI.of hc2 ?_)
    | (refine CallI.of hf ?_)
    | (refine CallS.of (In.enter g.lim rfl code_calendar_daysOf ?_))
    | (refine ⟨(.fn n_calendar_daysOf_1 [] [.ptr ⟨0, 17, 0⟩ 0 0], [(⟨0, 2, 0⟩, .cells ty_api_Period [I f, I t, I d]), (⟨0, 3, 0⟩, .cells ty_api_Period [I f2, I t2, I d2]), (⟨0, 17, 0⟩, .cells ty_api_Period [I f, I t, I d])]), rfl, ?_⟩)
    | (refine In.enter g.lim rfl code_calendar_collected_int ?_)
    | (refine In.enter g.lim rfl code_calendar_daysOf_1 ?_))
  refine LoopW.to (LoopW.up g (fun k => [(0, .yld ⟨1, 18, 0⟩), (1, .ptr ⟨0, 17, 0⟩ 0 0), (3, I (f + k))]) (fun k => [(⟨0, 2, 0⟩, .cells ty_api_Period [I f, I t, I d]), (⟨0, 3, 0⟩, .cells ty_api_Period [I f2, I t2, I d2]), (⟨0, 17, 0⟩, .cells ty_api_Period [I f, I t, I d]),
    (⟨1, 3, 0⟩, .cells ty_func_int_bool [.fn n_calendar_Meet_1 [] [.ptr ⟨0, 3, 0⟩ 0 0]]), (⟨1, 4, 0⟩, .row false ty_int 1 0 []), (⟨1, 5, 0⟩, .row false ty_int 1 (meetP (hasB f2 t2 d2) f d k).length ((meetP (hasB f2 t2 d2) f d k).map DI)), (⟨1, 5, 1⟩, .cells ty_Lint [.ref ⟨1, 5, 0⟩ 0 (meetP (hasB f2 t2 d2) f d k).length (meetP (hasB f2 t2 d2) f d k).length]),
    (⟨1, 18, 0⟩, .loop [(3, .ptr ⟨1, 3, 0⟩ 0 0), (4, .ref ⟨1, 4, 0⟩ 0 0 0), (5, .ptr ⟨1, 5, 1⟩ 0 0), (7, .fn n_calendar_daysOf_1 [] [.ptr ⟨0, 17, 0⟩ 0 0])] [8] rngAsg rngBdy 1 false false none)]) (t - f + 1).toNat (fun k hk ih => ?_) 0 (Nat.zero_le _)) (by simp) rfl
  have hlen := meetP_length (hasB f2 t2 d2) f d k
  by_cases hlt : k < (t - f + 1).toNat
  · have hin := s_inMask g d ((f + k + 5) % 7) (by omega) (by omega)
    have hh := s_has g f2 t2 d2 (f + k) (by omega) (by omega)
    by_cases hc : inM d ((f + k + 5) % 7) = true
    · rw [hc] at hin
      by_cases hq : hasB f2 t2 d2 (f + k) = true
      · rw [hq] at hh
        repeat' ((conv => whnf); first
        | refine Br.tt ?_
        | refine Br.ff ?_
        | refine Need.w ?_
        | refine Wr.w ?_
        | refine Cmp.t ?_
        | refine Cmp.f ?_
        | refine Rem.w ?_
        | refine Quo.w ?_
        | refine PickV.now rfl ?_
        | refine Pick.now rfl ?_
        | refine Chk.mk rfl ?_
        | refine PickW.w rfl ?_
          | (refine CallI.of (s_weekday g _ (by omega)) ?_)
          | (refine CallI.of hin ?_)
          | (refine CallI.of hh ?_)
          | (refine Rnd.enter g.lim ?_)
          | (refine In.enter g.lim rfl code_calendar_Meet_1 ?_)
          | (refine LoopW.to (ih hlt) ?_ ?_))
        · simp; omega
        · simp [meetP, hc, hq]
      · rw [Bool.not_eq_true] at hq
        rw [hq] at hh
        repeat' ((conv => whnf); first
        | refine Br.tt ?_
        | refine Br.ff ?_
        | refine Need.w ?_
        | refine Wr.w ?_
        | refine Cmp.t ?_
        | refine Cmp.f ?_
        | refine Rem.w ?_
        | refine Quo.w ?_
        | refine PickV.now rfl ?_
        | refine Pick.now rfl ?_
        | refine Chk.mk rfl ?_
        | refine PickW.w rfl ?_
          | (refine CallI.of (s_weekday g _ (by omega)) ?_)
          | (refine CallI.of hin ?_)
          | (refine CallI.of hh ?_)
          | (refine Rnd.enter g.lim ?_)
          | (refine In.enter g.lim rfl code_calendar_Meet_1 ?_)
          | (refine LoopW.to (ih hlt) ?_ ?_))
        · simp; omega
        · simp [meetP, hq]
    · rw [Bool.not_eq_true] at hc
      rw [hc] at hin
      repeat' ((conv => whnf); first
      | refine Br.tt ?_
      | refine Br.ff ?_
      | refine Need.w ?_
      | refine Wr.w ?_
      | refine Cmp.t ?_
      | refine Cmp.f ?_
      | refine Rem.w ?_
      | refine Quo.w ?_
      | refine PickV.now rfl ?_
      | refine Pick.now rfl ?_
      | refine Chk.mk rfl ?_
      | refine PickW.w rfl ?_
        | (refine CallI.of (s_weekday g _ (by omega)) ?_)
        | (refine CallI.of hin ?_)
        | (refine LoopW.to (ih hlt) ?_ ?_))
      · simp; omega
      · simp [meetP, hc]
  · have hk' : k = (t - f + 1).toNat := by omega
    repeat' ((conv => whnf); first
    | refine Br.tt ?_
    | refine Br.ff ?_
    | refine Need.w ?_
    | refine Wr.w ?_
    | refine Cmp.t ?_
    | refine Cmp.f ?_
    | refine Rem.w ?_
    | refine Quo.w ?_
    | refine PickV.now rfl ?_
    | refine Pick.now rfl ?_
    | refine Chk.mk rfl ?_
    | refine PickW.w rfl ?_
      | (refine Ret.mk ?_))
    simp [hk']
theorem s_Meet_bad (f t d f2 t2 d2 : Int) (h : firstI [chkPer f t d, chkPer f2 t2 d2] ≠ 0) : Fc E n_calendar_Meet [Per f t d, Per f2 t2 d2] (.tup [LI [], I (firstI [chkPer f t d, chkPer f2 t2 d2])]) := by
  refine g.fn code_calendar_Meet rfl ?_
  repeat' ((conv => whnf); first
  | refine Br.tt ?_
  | refine Br.ff ?_
  | refine Need.w ?_
  | refine Wr.w ?_
  | refine Cmp.t ?_
  | refine Cmp.f ?_
  | refine Rem.w ?_
  | refine Quo.w ?_
  | refine PickV.now rfl ?_
  | refine Pick.now rfl ?_
  | refine Chk.mk rfl ?_
  | refine PickW.w rfl ?_
    | (refine CallI.of (s_CheckPeriod g _ _ _) ?_)
    | (refine CallI.of (s_first2 g _ _) ?_)
    | (refine Ret.mk rfl))
theorem s_Count (f t d : Int) (l : List Int) (e : Int) (h : Fc E n_calendar_DaysOf [Per f t d] (.tup [LI l, I e])) : Fc E n_calendar_Count [Per f t d] (.tup [I l.length, I e]) := by
  refine g.fn code_calendar_Count rfl ?_
  repeat' ((conv => whnf); first
  | refine Br.tt ?_
  | refine Br.ff ?_
  | refine Need.w ?_
  | refine Wr.w ?_
  | refine Cmp.t ?_
  | refine Cmp.f ?_
  | refine Rem.w ?_
  | refine Quo.w ?_
  | refine PickV.now rfl ?_
  | refine Pick.now rfl ?_
  | refine Chk.mk rfl ?_
  | refine PickW.w rfl ?_
    | (refine CallI.of h ?_)
    | (refine Ret.mk rfl))
end
end Go.Proofs.YtddpjjaebkaggabGreatDoor.Co
