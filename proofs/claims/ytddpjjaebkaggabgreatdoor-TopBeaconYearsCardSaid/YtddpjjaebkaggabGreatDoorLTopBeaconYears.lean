
/-
  TopBeaconYears returns true, for every two days and every number.
-/
import Derived.Test.YtddpjjaebkaggabGreatDoorFit
import Derived.Test.YtddpjjaebkaggabGreatDoorPlYear
import Derived.Test.YtddpjjaebkaggabGreatDoorAwT
namespace Go.Proofs.YtddpjjaebkaggabGreatDoor.Co
open Go Go.Evl
set_option maxRecDepth 100000
def lastD (l : Int) (k : Nat) : Int := if k = 0 then 0 else if 27 + (k : Int) ≤ l then 27 + k else l
section
variable {E : Oracle} (g : Good E)
include g
theorem years_day (y m d : Int) (hy : 2000 ≤ y ∧ y ≤ 2272) (hm : 1 ≤ m ∧ m ≤ 12) (hd : 28 ≤ d ∧ d ≤ 31) : ∃ v e : Int, Fc E n_calendar_Day [I y, I m, I d] (.tup [I v, I e]) ∧ ((e = 0 ∧ d ≤ lenM y m) ∨ (e ≠ 0 ∧ lenM y m < d)) := by
  have hc := chk_month y m d hy hm hd
  by_cases h : chkDate y m d = 0
  · exact ⟨_, _, s_Day_ok g y m d h, .inl ⟨rfl, hc.1 h⟩⟩
  · exact ⟨_, _, s_Day_bad g y m d h, .inr ⟨h, by have := mt hc.2 h; omega⟩⟩
theorem years_loop (y : Int) (hy : 2000 ≤ y ∧ y ≤ 2272) (u v w : Int) (K : Ex → Env → Mem → Prop) (hk : K (.exit 0) [(19, I y), (20, I (lenY y)), (21, I 13), (124, B false)] [(⟨0, 11, 0⟩, .cells ty_3_int [I u, I v, I w])]) :
    LoopW E ⟨0, 1⟩ [19, 20, 21] [⟨0, 11, 0⟩] b_top_TopBeaconYears_2 [(19, I y), (20, I 0), (21, I 1)] [(⟨0, 11, 0⟩, .cells ty_3_int [I u, I v, I w])] K := by
  refine LoopW.to (LoopW.up g (fun k => [(19, I y), (20, I (daysM y k)), (21, I (k + 1))]) (fun _ => [(⟨0, 11, 0⟩, .cells ty_3_int [I u, I v, I w])]) 12 (fun k hk2 ih => ?_) 0 (by decide)) rfl rfl
  have hd := daysM_le y k
  by_cases hlt : k < 12
  · have hl := lenM_le y (k + 1)
    have hday := fun d => years_day g y (k + 1) d hy (by omega)
    have hs : daysM y (k + 1) = daysM y k + lenM y (k + 1) := rfl
    generalize lenM y (k + 1) = l at *
    generalize daysM y k = t at *
    generalize daysM y (k + 1) = t2 at *
    repeat' ((conv => whnf); first
    | refine Br.tt ?_
    | refine Br.ff ?_
    | refine Need.w ?_
    | refine Wr.w ?_
    | refine Cmp.t ?_
    | refine Cmp.f ?_
    | refine Rem.w ?_
    | refine Quo.w ?_
    | refine PickV.now rfl ?_
    | refine Pick.now rfl ?_
    | refine Chk.mk rfl ?_
    | refine PickW.w rfl ?_)
    refine LoopW.to (LoopW.up g (fun j => [(19, I y), (20, I t), (21, I (k + 1)), (22, I (lastD l j)), (23, I (28 + j))]) (fun _ => [(⟨0, 11, 0⟩, .cells ty_3_int [I u, I v, I w])]) 4 (fun j hj ih' => ?_) 0 (by decide)) rfl rfl
    by_cases hlt' : j < 4
    · obtain ⟨x, e, h1, h2⟩ := hday (28 + j) (by omega)
      rcases h2 with ⟨rfl, h2⟩ | ⟨h3, h2⟩
      · repeat' ((conv => whnf); first
      | refine Br.tt ?_
      | refine Br.ff ?_
      | refine Need.w ?_
      | refine Wr.w ?_
      | refine Cmp.t ?_
      | refine Cmp.f ?_
      | refine Rem.w ?_
      | refine Quo.w ?_
      | refine PickV.now rfl ?_
      | refine Pick.now rfl ?_
      | refine Chk.mk rfl ?_
      | refine PickW.w rfl ?_
          | (apply CallI.of; assumption)
          | (refine LoopW.to (ih' hlt') ?_ rfl))
        simp [lastD]; omega
      · repeat' ((conv => whnf); first
      | refine Br.tt ?_
      | refine Br.ff ?_
      | refine Need.w ?_
      | refine Wr.w ?_
      | refine Cmp.t ?_
      | refine Cmp.f ?_
      | refine Rem.w ?_
      | refine Quo.w ?_
      | refine PickV.now rfl ?_
      | refine Pick.now rfl ?_
      | refine Chk.mk rfl ?_
      | refine PickW.w rfl ?_
          | (apply CallI.of; assumption)
          | (refine LoopW.to (ih' hlt') ?_ rfl))
        simp [lastD]; omega
    · have e4 : lastD l j = l := by simp [lastD]; omega
      rw [e4]
      repeat' ((conv => whnf); first
      | refine Br.tt ?_
      | refine Br.ff ?_
      | refine Need.w ?_
      | refine Wr.w ?_
      | refine Cmp.t ?_
      | refine Cmp.f ?_
      | refine Rem.w ?_
      | refine Quo.w ?_
      | refine PickV.now rfl ?_
      | refine Pick.now rfl ?_
      | refine Chk.mk rfl ?_
      | refine PickW.w rfl ?_
        | (refine LoopW.to (ih hlt) ?_ rfl))
      rw [hs]
      simp
  · have e12 : k = 12 := by omega
    subst e12
    rw [daysM_12]
    repeat' ((conv => whnf); first
    | refine Br.tt ?_
    | refine Br.ff ?_
    | refine Need.w ?_
    | refine Wr.w ?_
    | refine Cmp.t ?_
    | refine Cmp.f ?_
    | refine Rem.w ?_
    | refine Quo.w ?_
    | refine PickV.now rfl ?_
    | refine Pick.now rfl ?_
    | refine Chk.mk rfl ?_
    | refine PickW.w rfl ?_
      | (exact hk))
set_option maxHeartbeats 8000000 in
theorem w_TopBeaconYears (a b year : Int) (hy : 0 ≤ year ∧ year ≤ 65535) : Fc E n_top_TopBeaconYears [I a, I b, .d (.int .u16 year)] (B true) := by
  have bd := s_beacon g
  have ca := r_CheckDay g a
  have cb := r_CheckDay g b
  refine g.fn code_top_TopBeaconYears rfl ?_
  by_cases ha : rng a 0 99999 = 0
  · by_cases hb : rng b 0 99999 = 0
    · rw [ha] at ca
      rw [hb] at cb
      have ha' := rng_zero.1 ha
      have hb' := rng_zero.1 hb
      obtain ⟨y1, m1, d1, h1⟩ := exists_date a (by omega)
      obtain ⟨y2, m2, d2, h2⟩ := exists_date b (by omega)
      have p1 := s_PrintDate_ok g h1 ha'
      have p2 := s_PrintDate_ok g h2 hb'
      have hl := texts_less h1 h2
      have he := texts_eq h1 h2
      have f1 := s_Date_ok g h1 ha'
      have f2 := s_Weekday_ok g a ha'
      generalize dateL y1 m1 d1 = s1 at *
      generalize dateL y2 m2 d2 = s2 at *
      obtain ⟨y, hyy⟩ : ∃ y, y = 2000 + year % 273 := ⟨_, rfl⟩
      have hyr : 2000 ≤ y ∧ y ≤ 2272 := by omega
      have n1 := new_year y (by omega)
      have n2 := new_year (y + 1) (by omega)
      have n3 := new_year_le y (by omega)
      have n4 := new_year_le (y + 1) (by omega)
      have f3 := s_Day_ok g y 1 1 (chkDate_of n1 n3.2)
      have f4 := s_Day_ok g (y + 1) 1 1 (chkDate_of n2 n4.2)
      rw [n1.e] at f3
      rw [n2.e, daysY_next y hyr.1] at f4
      rw [daysY_next y hyr.1] at n4
      have hly := lenY_le y
      have hly2 : lenY y = 365 ∨ lenY y = 366 := by omega
      have h12 := daysM_12 y
      have hm2 : (a < b ∧ strLess s1 s2 = true ∧ s1 ≠ s2) ∨ (a = b ∧ strLess s1 s2 = false ∧ s1 = s2) ∨ (b < a ∧ strLess s1 s2 = false ∧ s1 ≠ s2) := by
        rcases Int.lt_trichotomy a b with h | h | h
        · exact .inl ⟨h, by rw [hl]; simpa using h, fun e => by have := he.1 e; omega⟩
        · exact .inr (.inl ⟨h, by rw [hl]; simp; omega, he.2 h⟩)
        · exact .inr (.inr ⟨h, by rw [hl]; simp; omega, fun e => by have := he.1 e; omega⟩)
      clear hl he
      have hpart : (y1 ≤ 2071 ∧ ∃ n, n = a + 10227 ∧ Fc E n_calendar_Day [I (y1 + 28), I m1, I d1] (.tup [I n, I 0]) ∧ Fc E n_calendar_Weekday [I n] (.tup [I ((n + 5) % 7), I 0])) ∨ 2071 < y1 := by
        rcases Int.lt_or_le 2071 y1 with h | h
        · exact .inr h
        · have k1 := later h1 h
          have k2 := later_chk h1 h
          have k3 := s_Day_ok g (y1 + 28) m1 d1 (chkDate_of k1 k2.2)
          rw [k1.e] at k3
          exact .inl ⟨h, _, rfl, k3, s_Weekday_ok g _ k2⟩
      have hy1 := h1.hy
      have hm1 := h1.hm
      clear h1 h2 n1 n2
      subst hyy
      rcases hm2 with ⟨k1, k2, k3⟩ | ⟨k1, k2, k3⟩ | ⟨k1, k2, k3⟩
      all_goals rcases hpart with ⟨h, n, hn, f5, f6⟩ | h
      all_goals (repeat' ((conv => whnf); first
      | refine Br.tt ?_
      | refine Br.ff ?_
      | refine Need.w ?_
      | refine Wr.w ?_
      | refine Cmp.t ?_
      | refine Cmp.f ?_
      | refine Rem.w ?_
      | refine Quo.w ?_
      | refine PickV.now rfl ?_
      | refine Pick.now rfl ?_
      | refine Chk.mk rfl ?_
      | refine PickW.w rfl ?_
        | (apply CallI.of; assumption)
        | (rw [k2])
        | (refine Cmp.tt k3 ?_)
        | (refine Cmp.ff k3 ?_)
        ))
      all_goals (conv => whnf)
      all_goals refine years_loop g _ hyr _ _ _ _ ?_
      all_goals (repeat' ((conv => whnf); first
      | refine Br.tt ?_
      | refine Br.ff ?_
      | refine Need.w ?_
      | refine Wr.w ?_
      | refine Cmp.t ?_
      | refine Cmp.f ?_
      | refine Rem.w ?_
      | refine Quo.w ?_
      | refine PickV.now rfl ?_
      | refine Pick.now rfl ?_
      | refine Chk.mk rfl ?_
      | refine PickW.w rfl ?_
        | (apply CallI.of; assumption)
        | (refine Cmp.tt (by omega) ?_)
        | (refine Cmp.mk (fun _ => ?_) (fun _ => ?_))
        | (refine Ret.mk rfl)))
      all_goals (exfalso; omega)
    · generalize rng b 0 99999 = c at *
      rw [ha] at ca
      repeat' ((conv => whnf); first
      | refine Br.tt ?_
      | refine Br.ff ?_
      | refine Need.w ?_
      | refine Wr.w ?_
      | refine Cmp.t ?_
      | refine Cmp.f ?_
      | refine Rem.w ?_
      | refine Quo.w ?_
      | refine PickV.now rfl ?_
      | refine Pick.now rfl ?_
      | refine Chk.mk rfl ?_
      | refine PickW.w rfl ?_
        | (apply CallI.of; assumption)
        | (refine Ret.mk rfl))
  · generalize rng a 0 99999 = c at *
    repeat' ((conv => whnf); first
    | refine Br.tt ?_
    | refine Br.ff ?_
    | refine Need.w ?_
    | refine Wr.w ?_
    | refine Cmp.t ?_
    | refine Cmp.f ?_
    | refine Rem.w ?_
    | refine Quo.w ?_
    | refine PickV.now rfl ?_
    | refine Pick.now rfl ?_
    | refine Chk.mk rfl ?_
    | refine PickW.w rfl ?_
      | (apply CallI.of; assumption)
      | (refine Ret.mk rfl))
end
theorem s_TopBeaconYears {E : Oracle} (g : Good E) {xs : List D} (h : fitArgs Tryz.prog [3, 3, 22] xs) : Fc E n_top_TopBeaconYears (asV xs) (B true) := by
  obtain ⟨x, y, z, rfl, h1, h2, h3⟩ := args3 h
  obtain ⟨a, rfl, _⟩ := arg_int h1
  obtain ⟨b, rfl, _⟩ := arg_int h2
  obtain ⟨c, rfl, hw⟩ := arg_i Tryz.underlying22 h3
  simp only [Lit.wf, Bool.and_eq_true, decide_eq_true_eq] at hw
  exact w_TopBeaconYears g a b c hw
end Go.Proofs.YtddpjjaebkaggabGreatDoor.Co
