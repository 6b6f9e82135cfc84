
/-
  CalendarCovers returns true, for every two periods, day and number.
-/
import Derived.Test.YtlboecjgelnabaaDoorFit
import Derived.Test.YtlboecjgelnabaaDoorPlCow
import Derived.Test.YtlboecjgelnabaaDoorSpLaw
import Derived.Test.YtlboecjgelnabaaDoorAwake
namespace Go.Proofs.YtlboecjgelnabaaDoor.Co
open Go Go.Evl
set_option maxRecDepth 100000

section
variable {E : Oracle} (g : Good E)
include g

omit g in
/-- Kept out of sight of what decides by itself. -/
structure Hid (p : Prop) : Prop where
  out : p

theorem r_SameL (a b : List Int) (h : a = b) (hl : a.length ≤ 140737488355328) : Fc E n_ref01_SameInts [LI a, LI b] (B true) := by
  subst h
  have := r_SameInts g a a hl
  simpa using this

set_option maxHeartbeats 16000000 in
theorem w_CalendarCovers (f t d f2 t2 d2 day by_ : Int) : Fc E n_law01_CalendarCovers [Per f t d, Per f2 t2 d2, .d (.agg [DI day, DI by_])] (B true) := by
  have aw := s_awake g
  have c1 := r_CheckPeriod g f t d
  have c2 := r_CheckPeriod g f2 t2 d2
  have c3 := r_CheckDay g day
  by_cases hall : chkPer f t d = 0 ∧ chkPer f2 t2 d2 = 0 ∧ t - f ≤ 60 ∧ t2 - f2 ≤ 60 ∧ rng day 0 99999 = 0 ∧ -1000 ≤ by_ ∧ by_ ≤ 1000
  · obtain ⟨z1, z2, l1, l2, z3, lb⟩ := hall
    have p1 := chkPer_zero.1 z1
    have p2 := chkPer_zero.1 z2
    have p3 := rng_zero.1 z3
    have d1 := s_DaysOf_ok g f t d z1
    have d2' := s_DaysOf_ok g f2 t2 d2 z2
    have hx := daysP_chk f d (t - f + 1).toNat (by omega) (by omega)
    have hy := daysP_chk f2 d2 (t2 - f2 + 1).toNat (by omega) (by omega)
    have lx := daysP_length f d (t - f + 1).toNat
    have ly := daysP_length f2 d2 (t2 - f2 + 1).toNat
    have cx := r_CheckDays g (daysP f d (t - f + 1).toNat) (by omega)
    have cy := r_CheckDays g (daysP f2 d2 (t2 - f2 + 1).toNat) (by omega)
    rw [hx] at cx
    rw [hy] at cy
    -- the parts of a period that is split
    have hsplit : Hid ((∃ e : Int, e ≠ 0 ∧ Fc E n_calendar_Split [Per f t d, I day] (.tup [Per2 0 0 0 0 0 0, I e])) ∨ (∃ u v : List Int, Fc E n_calendar_Split [Per f t d, I day] (.tup [Per2 f (day - 1) d day t d, I 0]) ∧ Fc E n_calendar_DaysOf [Per f (day - 1) d] (.tup [LI u, I 0]) ∧ Fc E n_calendar_DaysOf [Per day t d] (.tup [LI v, I 0]) ∧ u ++ v = daysP f d (t - f + 1).toNat ∧ u.length ≤ 61 ∧ v.length ≤ 61)) := by
      refine ⟨?_⟩
      have := s_Split g f t d day
      rw [if_neg (fun h => h z1)] at this
      by_cases hc : day ≤ f ∨ t < day
      · rw [if_pos hc] at this
        exact .inl ⟨30, by decide, this⟩
      · rw [if_neg hc] at this
        have q1 := s_DaysOf_ok g f (day - 1) d (chkPer_zero.2 (by omega))
        have q2 := s_DaysOf_ok g day t d (chkPer_zero.2 (by omega))
        have k1 := daysP_length f d (day - 1 - f + 1).toNat
        have k2 := daysP_length day d (t - day + 1).toNat
        refine .inr ⟨_, _, this, q1, q2, ?_, by omega, by omega⟩
        have := daysP_add f d (day - 1 - f + 1).toNat (t - day + 1).toNat
        rw [show (day - 1 - f + 1).toNat + (t - day + 1).toNat = (t - f + 1).toNat by omega, show f + ((day - 1 - f + 1).toNat : Int) = day by omega] at this
        exact this.symm
    -- the moved period
    have hshift : Hid ((Fc E n_calendar_Shift [Per f t d, I by_] (.tup [Per 0 0 0, I 30]) ∧ (f + by_ < 0 ∨ 99999 < t + by_)) ∨ (∃ m : Int, Fc E n_calendar_Shift [Per f t d, I by_] (.tup [Per (f + by_) (t + by_) m, I 0]) ∧ Fc E n_calendar_DaysOf [Per (f + by_) (t + by_) m] (.tup [LI ((daysP f d (t - f + 1).toNat).map (· + by_)), I 0]))) := by
      refine ⟨?_⟩
      have := s_Shift g f t d by_
      have hr : firstI [chkPer f t d, rng by_ (-99999) 99999] = 0 := by
        rw [z1, rng_zero.2 (by omega)]; rfl
      rw [hr, if_neg (by simp)] at this
      by_cases hc : f + by_ < 0 ∨ 99999 < t + by_
      · rw [if_pos hc] at this
        exact .inl ⟨this, hc⟩
      · rw [if_neg hc] at this
        have hm := mask_moved (show 1 ≤ d ∧ d ≤ 127 by omega) by_
        have q := s_DaysOf_ok g (f + by_) (t + by_) (refMask d by_ 7) (chkPer_zero.2 (by omega))
        rw [show (t + by_ - (f + by_) + 1).toNat = (t - f + 1).toNat by omega, daysP_moved (by omega)] at q
        exact .inr ⟨_, this, q⟩
    clear c3
    rw [z1] at c1
    rw [z2] at c2
    have c3 := r_CheckDay g day
    rw [z3] at c3
    generalize daysP f d (t - f + 1).toNat = x at *
    generalize daysP f2 d2 (t2 - f2 + 1).toNat = y at *
    have lx' : (x.length : Int) ≤ 61 := by omega
    have ly' : (y.length : Int) ≤ 61 := by omega
    refine g.fn code_law01_CalendarCovers rfl ?_
    repeat' ((conv => whnf); first
      | (refine Br.tt ?_)
      | (refine Br.ff ?_)
      | (refine Need.mk (by first | omega | (simp; done) | (simp; omega)) ?_)
      | (refine Wr.keep (by omega) ?_)
      | (refine Cmp.tt (by first | omega | decide) ?_)
      | (refine Cmp.ff (by first | omega | decide) ?_)
      | (refine Rem.pos (by omega) ?_)
      | (refine Quo.pos (by omega) ?_)
      | (refine PickV.now rfl ?_)
      | (refine Pick.now rfl ?_)
      | (refine PickW.now (by first | omega | decide) rfl ?_)
      | (apply CallI.of; assumption))
    refine LoopW.to (LoopW.by g (fun (s : Nat × Nat × List Int) => s.1 ≤ x.length ∧ s.2.1 ≤ y.length ∧ Mg x y s.2.2 s.1 s.2.1)
      (fun s => [(3, .ptr ⟨0, 3, 0⟩ 0 0), (7, I day), (8, I by_), (9, LI x), (11, LI y), (13, .ref ⟨0, 13, 0⟩ 0 s.2.2.length s.2.2.length), (14, I s.1), (15, I s.2.1)])
      (fun s => [(⟨0, 3, 0⟩, .cells ty_api_Period [I f, I t, I d]), (⟨0, 4, 0⟩, .cells ty_api_Period [I f2, I t2, I d2]), (⟨0, 5, 0⟩, .cells ty_2_int [I day, I by_]), (⟨0, 13, 0⟩, .row false ty_int 1 s.2.2.length (s.2.2.map DI))])
      (fun s => (x.length - s.1) + (y.length - s.2.1)) (fun s hs ih => ?_) (0, 0, []) ⟨Nat.zero_le _, Nat.zero_le _, mg_start x y⟩) rfl rfl
    obtain ⟨i, k, all⟩ := s
    obtain ⟨hi, hk, hM⟩ := hs
    simp only at hi hk hM ih ⊢
    have hal := hM.len
    by_cases hend : i = x.length ∧ k = y.length
    · obtain ⟨rfl, rfl⟩ := hend
      have hz : chkDays all = 0 := chkDays_of (by omega) hM.strict hM.rng
      have sj := s_Join_ok g all hz
      have sj' : ∀ {n : Nat} {cs : List D}, n = all.length → cs = all.map DI → Fc E n_calendar_Join [.d (.list n cs)] (.tup [LP (joinL all), I 0]) := by
        rintro _ _ rfl rfl; exact sj
      have hol := outs_length all all.length
      have hjl : (joinL all).length ≤ all.length := hol
      obtain ⟨b, hb0, hb1, hb2⟩ := cov_idx (join_cov (l := all))
      have hjc : ((joinL all).length : Int) ≤ all.length := by omega
      clear ih
      repeat' ((conv => whnf); first
        | (refine Br.tt ?_)
        | (refine Br.ff ?_)
        | (refine Need.mk (by first | omega | (simp; done) | (simp; omega)) ?_)
        | (refine Wr.keep (by omega) ?_)
        | (refine Cmp.tt (by first | omega | decide) ?_)
        | (refine Cmp.ff (by first | omega | decide) ?_)
        | (refine Rem.pos (by omega) ?_)
        | (refine Quo.pos (by omega) ?_)
        | (refine PickV.now rfl ?_)
        | (refine Pick.now rfl ?_)
        | (refine PickW.now (by first | omega | decide) rfl ?_)
        | (apply CallI.of; assumption)
        | (refine CallI.of (sj' (by omega) (by simp)) ?_))
      refine LoopW.to (LoopW.up g (fun r => [(3, .ptr ⟨0, 3, 0⟩ 0 0), (7, I day), (8, I by_), (9, LI x), (13, .ref ⟨0, 13, 0⟩ 0 all.length all.length), (16, LP (joinL all)), (18, .ref ⟨0, 18, 0⟩ 0 (all.take (b r)).length (all.take (b r)).length), (205, LP (joinL all)), (206, I (joinL all).length), (207, I r)])
        (fun r => [(⟨0, 3, 0⟩, .cells ty_api_Period [I f, I t, I d]), (⟨0, 4, 0⟩, .cells ty_api_Period [I f2, I t2, I d2]), (⟨0, 5, 0⟩, .cells ty_2_int [I day, I by_]), (⟨0, 13, 0⟩, .row false ty_int 1 all.length (all.map DI)), (⟨0, 190, 0⟩, .row false ty_int 1 all.length (all.map DI)), (⟨0, 18, 0⟩, .row false ty_int 1 (all.take (b r)).length ((all.take (b r)).map DI))]) (joinL all).length (fun r hr ih => ?_) 0 (Nat.zero_le _)) ?_ ?_
      · by_cases hlt : r < (joinL all).length
        · obtain ⟨hbr, w, ho⟩ := hb2 r hlt
          obtain ⟨u, hu1, hu2, hu3, hu4, hu5⟩ := cov_seg hz hbr ho
          have dq := s_DaysOf_ok g _ _ _ (open_chk hz ho)
          rw [hu1] at dq
          have hol2 := ho.lt
          have hul : u.length ≤ 122 := by omega
          have htl : (all.take (b r)).length ≤ 122 := by simp; omega
          have hprev : ∀ j, r = j + 1 → ∀ hj : j < (joinL all).length, ¬ (joinL all)[r].1 ≤ (joinL all)[j].2.1 := by
            intro j e hj
            subst e
            obtain ⟨hbj, w', ho'⟩ := hb2 j hj
            rw [ho.f, ho'.t]
            have := day_lt hz (show b (j + 1) - 1 < b (j + 1) by omega) (by omega)
            omega
          cases r with
          | zero =>
            repeat' ((conv => whnf); first
              | (refine Br.tt ?_)
              | (refine Br.ff ?_)
              | (refine Need.mk (by first | omega | (simp; done) | (simp; omega)) ?_)
              | (refine Wr.keep (by omega) ?_)
              | (refine Cmp.tt (by first | omega | decide) ?_)
              | (refine Cmp.ff (by first | omega | decide) ?_)
              | (refine Rem.pos (by omega) ?_)
              | (refine Quo.pos (by omega) ?_)
              | (refine PickV.now rfl ?_)
              | (refine Pick.now rfl ?_)
              | (refine PickW.now (by first | omega | decide) rfl ?_)
              | (apply CallI.of; assumption)
              | (refine PickW.rec cellP_len 0 (by omega) hlt ?_)
              | (refine Pick.at 0 (by omega) (by omega) ?_)
              | (refine Pick.at (b (0 + 1) - b 0 - 1) (by omega) (by omega) ?_)
              | (refine Cmp.tt hu3 ?_)
              | (refine Cmp.tt hu4 ?_)
              | (refine LoopW.to (ih hlt) ?_ ?_))
            all_goals (rw [← hu5]; simp)
          | succ j =>
            have hj : j < (joinL all).length := by omega
            have hpv := hprev j rfl hj
            repeat' ((conv => whnf); first
              | (refine Br.tt ?_)
              | (refine Br.ff ?_)
              | (refine Need.mk (by first | omega | (simp; done) | (simp; omega)) ?_)
              | (refine Wr.keep (by omega) ?_)
              | (refine Cmp.tt (by first | omega | decide) ?_)
              | (refine Cmp.ff (by first | omega | decide) ?_)
              | (refine Rem.pos (by omega) ?_)
              | (refine Quo.pos (by omega) ?_)
              | (refine PickV.now rfl ?_)
              | (refine Pick.now rfl ?_)
              | (refine PickW.now (by first | omega | decide) rfl ?_)
              | (apply CallI.of; assumption)
              | (refine PickW.rec cellP_len (j + 1) (by omega) hlt ?_)
              | (refine Pick.rec cellP_len j (by omega) hj rfl ?_)
              | (refine Pick.at 0 (by omega) (by omega) ?_)
              | (refine Pick.at (b (j + 1 + 1) - b (j + 1) - 1) (by omega) (by omega) ?_)
              | (refine Cmp.tt hu3 ?_)
              | (refine Cmp.tt hu4 ?_)
              | (refine Cmp.ff hpv ?_)
              | (refine LoopW.to (ih hlt) ?_ ?_))
            all_goals (rw [← hu5]; simp)
        · have hr' : r = (joinL all).length := by omega
          subst hr'
          rw [hb1, List.take_length]
          have same : ∀ {n m : Nat} {cs ds : List D}, n = all.length → m = all.length → cs = all.map DI → ds = all.map DI → Fc E n_ref01_SameInts [.d (.list n cs), .d (.list m ds)] (B true) := by
            rintro _ _ _ _ rfl rfl rfl rfl; exact r_SameL g all all rfl (by omega)
          have same2 : ∀ {n : Nat} {cs : List D}, n = x.length → cs = x.map DI → Fc E n_ref01_SameInts [.d (.list n cs), LI x] (B true) := by
            rintro _ _ rfl rfl; exact r_SameL g x x rfl (by omega)
          have hget : ∀ k, k < x.length → (x.map (· + by_)).getD k 0 = x.getD k 0 + by_ := fun k hk => by simp [List.getD, hk]
          have hml : (x.map (· + by_)).length = x.length := by simp
          rcases hsplit.out with ⟨e, he, hs⟩ | ⟨u, v, hs, hs1, hs2, huv, hul, hvl⟩
          all_goals rcases hshift.out with ⟨hsh, hsc⟩ | ⟨mm, hsh, hsd⟩
          all_goals (repeat' ((conv => whnf); first
            | (refine Br.tt ?_)
            | (refine Br.ff ?_)
            | (refine Need.mk (by first | omega | (simp; done) | (simp; omega)) ?_)
            | (refine Wr.keep (by omega) ?_)
            | (refine Cmp.tt (by first | omega | decide) ?_)
            | (refine Cmp.ff (by first | omega | decide) ?_)
            | (refine Rem.pos (by omega) ?_)
            | (refine Quo.pos (by omega) ?_)
            | (refine PickV.now rfl ?_)
            | (refine Pick.now rfl ?_)
            | (refine PickW.now (by first | omega | decide) rfl ?_)
            | (apply CallI.of; assumption)
            | (refine CallI.of (same rfl rfl (by simp) (by simp)) ?_)
            | (refine CallI.of (same2 (by rw [← huv]; simp) (by rw [← huv]; simp)) ?_)
            | (refine Cmp.mk (fun h => ?_) (fun h => ?_))
            | (refine Rem.any (by omega) (fun r hr he => ?_))
            | (refine Br.mk (fun h => ?_) (fun h => ?_))
            | (refine Ret.mk rfl)
            | (exfalso; omega)))
          all_goals (conv => whnf)
          all_goals refine LoopW.to (LoopW.up g (fun q => [(8, I by_), (9, LI x), (31, LI (x.map (· + by_))), (339, I (x.map (· + by_)).length), (340, I q)]) (fun _ => _) x.length (fun q hq ih => ?_) 0 (Nat.zero_le _)) rfl rfl
          all_goals have hrx : q < x.length → 0 ≤ x.getD q 0 ∧ x.getD q 0 ≤ 99999 := fun h => day_range hx h
          all_goals have hgq := hget q
          all_goals by_cases hlt2 : q < x.length
          all_goals (repeat' ((conv => whnf); first
            | (refine Br.tt ?_)
            | (refine Br.ff ?_)
            | (refine Need.mk (by first | omega | (simp; done) | (simp; omega)) ?_)
            | (refine Wr.keep (by omega) ?_)
            | (refine Cmp.tt (by first | omega | decide) ?_)
            | (refine Cmp.ff (by first | omega | decide) ?_)
            | (refine Rem.pos (by omega) ?_)
            | (refine Quo.pos (by omega) ?_)
            | (refine PickV.now rfl ?_)
            | (refine Pick.now rfl ?_)
            | (refine PickW.now (by first | omega | decide) rfl ?_)
            | (refine Pick.at q (by omega) (by omega) ?_)
            | (refine Wr.keep (by have := hrx hlt2; omega) ?_)
            | (refine Cmp.tt (hgq hlt2) ?_)
            | (refine LoopW.to (ih hlt2) rfl rfl)
            | (refine Ret.mk rfl)))
      · simp [hb0]
      · simp [hb0]
    · by_cases ha : k = y.length ∨ i < x.length ∧ x.getD i 0 < y.getD k 0
      · have hix : i < x.length := by omega
        have hm := mg_x hx hy hM hix (fun hk2 => by omega)
        have ih2 := ih (i + 1, k, all ++ [x.getD i 0])
        simp only at ih2
        have ih2 := ih2 ⟨by omega, hk, hm⟩ (by omega)
        repeat' ((conv => whnf); first
          | (refine Br.tt ?_)
          | (refine Br.ff ?_)
          | (refine Need.mk (by first | omega | (simp; done) | (simp; omega)) ?_)
          | (refine Wr.keep (by omega) ?_)
          | (refine Cmp.tt (by first | omega | decide) ?_)
          | (refine Cmp.ff (by first | omega | decide) ?_)
          | (refine Rem.pos (by omega) ?_)
          | (refine Quo.pos (by omega) ?_)
          | (refine PickV.now rfl ?_)
          | (refine Pick.now rfl ?_)
          | (refine PickW.now (by first | omega | decide) rfl ?_)
          | (refine Pick.at i (by omega) hix ?_)
          | (refine Pick.at k (by omega) (by omega) ?_)
          | (refine Cmp.mk (fun h => ?_) (fun h => ?_))
          | (refine Rem.any (by omega) (fun r hr he => ?_))
          | (refine Br.mk (fun h => ?_) (fun h => ?_))
          | (refine LoopW.to ih2 ?_ ?_)
          | (exfalso; omega))
        all_goals simp
      · by_cases hb : i = x.length ∨ y.getD k 0 < x.getD i 0
        · have hky : k < y.length := by omega
          have hm := mg_y hx hy hM hky (fun hi2 => by omega)
          have ih2 := ih (i, k + 1, all ++ [y.getD k 0])
          simp only at ih2
          have ih2 := ih2 ⟨hi, by omega, hm⟩ (by omega)
          repeat' ((conv => whnf); first
            | (refine Br.tt ?_)
            | (refine Br.ff ?_)
            | (refine Need.mk (by first | omega | (simp; done) | (simp; omega)) ?_)
            | (refine Wr.keep (by omega) ?_)
            | (refine Cmp.tt (by first | omega | decide) ?_)
            | (refine Cmp.ff (by first | omega | decide) ?_)
            | (refine Rem.pos (by omega) ?_)
            | (refine Quo.pos (by omega) ?_)
            | (refine PickV.now rfl ?_)
            | (refine Pick.now rfl ?_)
            | (refine PickW.now (by first | omega | decide) rfl ?_)
            | (refine Pick.at i (by omega) (by omega) ?_)
            | (refine Pick.at k (by omega) hky ?_)
            | (refine Cmp.mk (fun h => ?_) (fun h => ?_))
            | (refine Rem.any (by omega) (fun r hr he => ?_))
            | (refine Br.mk (fun h => ?_) (fun h => ?_))
            | (refine LoopW.to ih2 ?_ ?_)
            | (exfalso; omega))
          all_goals simp
        · have hix : i < x.length := by omega
          have hky : k < y.length := by omega
          have he : x.getD i 0 = y.getD k 0 := by omega
          have hm := mg_xy hx hy hM hix hky he
          have ih2 := ih (i + 1, k + 1, all ++ [x.getD i 0])
          simp only at ih2
          have ih2 := ih2 ⟨by omega, by omega, hm⟩ (by omega)
          repeat' ((conv => whnf); first
            | (refine Br.tt ?_)
            | (refine Br.ff ?_)
            | (refine Need.mk (by first | omega | (simp; done) | (simp; omega)) ?_)
            | (refine Wr.keep (by omega) ?_)
            | (refine Cmp.tt (by first | omega | decide) ?_)
            | (refine Cmp.ff (by first | omega | decide) ?_)
            | (refine Rem.pos (by omega) ?_)
            | (refine Quo.pos (by omega) ?_)
            | (refine PickV.now rfl ?_)
            | (refine Pick.now rfl ?_)
            | (refine PickW.now (by first | omega | decide) rfl ?_)
            | (refine Pick.at i (by omega) hix ?_)
            | (refine Pick.at k (by omega) hky ?_)
            | (refine Cmp.mk (fun h => ?_) (fun h => ?_))
            | (refine Rem.any (by omega) (fun r hr he => ?_))
            | (refine Br.mk (fun h => ?_) (fun h => ?_))
            | (refine LoopW.to ih2 ?_ ?_)
            | (exfalso; omega))
          all_goals simp
  · have q1 := @chkPer_zero f t d
    have q2 := @chkPer_zero f2 t2 d2
    have q3 := @rng_zero day 0 99999
    generalize chkPer f t d = e1 at *
    generalize chkPer f2 t2 d2 = e2 at *
    generalize rng day 0 99999 = e3 at *
    refine g.fn code_law01_CalendarCovers rfl ?_
    repeat' ((conv => whnf); first
      | (refine Br.tt ?_)
      | (refine Br.ff ?_)
      | (refine Need.mk (by first | omega | (simp; done) | (simp; omega)) ?_)
      | (refine Wr.keep (by omega) ?_)
      | (refine Cmp.tt (by first | omega | decide) ?_)
      | (refine Cmp.ff (by first | omega | decide) ?_)
      | (refine Rem.pos (by omega) ?_)
      | (refine Quo.pos (by omega) ?_)
      | (refine PickV.now rfl ?_)
      | (refine Pick.now rfl ?_)
      | (refine PickW.now (by first | omega | decide) rfl ?_)
      | (apply CallI.of; assumption)
      | (refine Cmp.mk (fun h => ?_) (fun h => ?_))
      | (refine Rem.any (by omega) (fun r hr he => ?_))
      | (refine Br.mk (fun h => ?_) (fun h => ?_))
      | (refine Ret.mk rfl)
      | (exfalso; omega))
    all_goals skip
end

theorem s_CalendarCovers {E : Oracle} (g : Good E) {xs : List D} (h : fitArgs Tryd.prog [53, 53, 71] xs) : Fc E n_law01_CalendarCovers (asV xs) (B true) := by
  obtain ⟨x, y, z, rfl, h1, h2, h3⟩ := args3 h
  obtain ⟨f, t, d, rfl, _⟩ := arg_Per h1
  obtain ⟨f2, t2, d2, rfl, _⟩ := arg_Per h2
  obtain ⟨ds, rfl, h4⟩ := arg_ar Tryd.underlying71 h3
  obtain ⟨l, rfl, hl, _⟩ := fit_ints 2 h4
  match l, hl with
  | [day, by_], _ => exact w_CalendarCovers g f t d f2 t2 d2 day by_
end Go.Proofs.YtlboecjgelnabaaDoor.Co

