
/-
  CalendarSummers returns true, for every offset, years, key and number of elements.
-/
import Derived.Test.YtlboecjgelnabaaGreatDoorFit
import Derived.Test.YtlboecjgelnabaaGreatDoorSpSun
import Derived.Test.YtlboecjgelnabaaGreatDoorSpLaw
import Derived.Test.YtlboecjgelnabaaGreatDoorAwake
namespace Go.Proofs.YtlboecjgelnabaaGreatDoor.Co
open Go Go.Evl
set_option maxRecDepth 100000

section
variable {E : Oracle} (g : Good E)
include g

theorem r_SameZone (o : Int) (l : List (Int × Int)) (hl : l.length ≤ 1048576) : Fc E n_ref01_SameZone [Zo o l, Zo o l] (B true) := by
  refine g.fn code_ref01_SameZone rfl ?_
  repeat' ((conv => whnf); first
    | (refine Br.tt ?_)
    | (refine Br.ff ?_)
    | (refine Need.mk (by first | omega | (simp; done) | (simp; omega)) ?_)
    | (refine Wr.keep (by omega) ?_)
    | (refine Cmp.tt (by first | omega | decide) ?_)
    | (refine Cmp.ff (by first | omega | decide) ?_)
    | (refine Rem.pos (by omega) ?_)
    | (refine Quo.pos (by omega) ?_)
    | (refine PickV.now rfl ?_)
    | (refine Pick.now rfl ?_)
    | (refine PickW.now (by first | omega | decide) rfl ?_))
  refine LoopW.to (LoopW.up g (fun k => [(2, .ptr ⟨0, 2, 0⟩ 0 0), (3, .ptr ⟨0, 3, 0⟩ 0 0), (5, I k)])
    (fun k => [(⟨0, 2, 0⟩, .cells ty_turnroundref01_Zone [I o, .d (.list l.length (l.flatMap cellC))]), (⟨0, 3, 0⟩, .cells ty_turnroundref01_Zone [I o, .d (.list l.length (l.flatMap cellC))])]) l.length (fun k hk ih => ?_) 0 (Nat.zero_le _)) rfl rfl
  by_cases hlt : k < l.length
  · repeat' ((conv => whnf); first
    | (refine Br.tt ?_)
    | (refine Br.ff ?_)
    | (refine Need.mk (by first | omega | (simp; done) | (simp; omega)) ?_)
    | (refine Wr.keep (by omega) ?_)
    | (refine Cmp.tt (by first | omega | decide) ?_)
    | (refine Cmp.ff (by first | omega | decide) ?_)
    | (refine Rem.pos (by omega) ?_)
    | (refine Quo.pos (by omega) ?_)
    | (refine PickV.now rfl ?_)
    | (refine Pick.now rfl ?_)
    | (refine PickW.now (by first | omega | decide) rfl ?_)
      | (refine PickW.chg hlt ?_)
      | (refine LoopW.to (ih hlt) rfl rfl))
  · repeat' ((conv => whnf); first
    | (refine Br.tt ?_)
    | (refine Br.ff ?_)
    | (refine Need.mk (by first | omega | (simp; done) | (simp; omega)) ?_)
    | (refine Wr.keep (by omega) ?_)
    | (refine Cmp.tt (by first | omega | decide) ?_)
    | (refine Cmp.ff (by first | omega | decide) ?_)
    | (refine Rem.pos (by omega) ?_)
    | (refine Quo.pos (by omega) ?_)
    | (refine PickV.now rfl ?_)
    | (refine Pick.now rfl ?_)
    | (refine PickW.now (by first | omega | decide) rfl ?_)
      | (refine Ret.mk rfl))

theorem s_Draw_bad (key n : Int) (h : chkDraw key n ≠ 0) : Fc E n_calendar_Draw [I key, I n] (.tup [.d (.list 0 []), I (chkDraw key n)]) := by
  refine g.fn code_calendar_Draw rfl ?_
  have r1 : rng key 1 2147483646 = 0 ∨ rng key 1 2147483646 = 3 := by unfold rng; split <;> simp
  have r2 : rng n 0 256 = 0 ∨ rng n 0 256 = 3 := by unfold rng; split <;> simp
  have k1 : firstI [rng key 1 2147483646, rng n 0 256] = chkDraw key n := by
    simp only [firstI, chkDraw]
    rcases r1 with r1 | r1 <;> rcases r2 with r2 | r2 <;> simp [r1, r2]
  repeat' ((conv => whnf); first
    | (refine Br.tt ?_)
    | (refine Br.ff ?_)
    | (refine Need.mk (by first | omega | (simp; done) | (simp; omega)) ?_)
    | (refine Wr.keep (by omega) ?_)
    | (refine Cmp.tt (by first | omega | decide) ?_)
    | (refine Cmp.ff (by first | omega | decide) ?_)
    | (refine Rem.pos (by omega) ?_)
    | (refine Quo.pos (by omega) ?_)
    | (refine PickV.now rfl ?_)
    | (refine Pick.now rfl ?_)
    | (refine PickW.now (by first | omega | decide) rfl ?_)
    | (refine CallI.of (s_within g _ _ _) ?_)
    | (refine CallI.of (s_first2 g _ _) ?_)
    | (refine Ret.mk ?_))
  simp [k1]

theorem w_CalendarSummers (o f t key n : Int) : Fc E n_law01_CalendarSummers [I o, .d (.agg [DI f, DI t]), .d (.agg [DI key, DI n])] (B true) := by
  have hz : ∃ (z : Int) (l : List (Int × Int)), l.length ≤ 1048576 ∧ Fc E n_calendar_Summer [I o, I f, I t] (.tup [Zo z l, I (chkSum o f t)]) ∧ (chkSum o f t = 0 → Fc E n_ref01_Summer [I o, I f, I t] (Zo z l)) ∧ (chkSum o f t ≠ 0 → z = 0 ∧ l = []) := by
    by_cases hc : chkSum o f t = 0
    · have hb := chkSum_zero.1 hc
      refine ⟨o, _, ?_, by have := s_Summer_ok g o f t hc; rwa [hc], fun _ => r_Summer g o f t hc, fun h => absurd hc h⟩
      rw [sumL_length]; omega
    · exact ⟨0, [], by simp, s_Summer_bad g o f t hc, fun h => absurd h hc, fun _ => ⟨rfl, rfl⟩⟩
  obtain ⟨z, l, hl, hs, hr, hbad⟩ := hz
  have hd : ∃ m : List Int, m.length ≤ 140737488355328 ∧ Fc E n_calendar_Draw [I key, I n] (.tup [LI m, I (chkDraw key n)]) ∧ (chkDraw key n = 0 → Fc E n_ref01_Draw [I key, I n] (LI m)) ∧ (chkDraw key n ≠ 0 → m = []) := by
    have k1 := @rng_zero key 1 2147483646
    have k2 := @rng_zero n 0 256
    by_cases hc : chkDraw key n = 0
    · have hr : 1 ≤ key ∧ key ≤ 2147483646 ∧ 0 ≤ n ∧ n ≤ 256 := by
        unfold chkDraw at hc
        split at hc <;> omega
      obtain ⟨m, rfl⟩ : ∃ m : Nat, n = m := ⟨n.toNat, by omega⟩
      refine ⟨drawAll key m, ?_, by have := s_Draw g key m (by omega) (by omega); rwa [hc], fun _ => r_Draw g key m (by omega) (by omega), fun h => absurd hc h⟩
      rw [drawAll, drawL_length, idL_length]; omega
    · exact ⟨[], by simp, s_Draw_bad g key n hc, fun h => absurd h hc, fun _ => rfl⟩
  obtain ⟨m, hm, hsd, hrd, hdb⟩ := hd
  refine g.fn code_law01_CalendarSummers rfl ?_
  have key1 := r_CheckSummer g o f t
  have key2 := r_CheckDraw g key n
  generalize chkSum o f t = c1 at *
  generalize chkDraw key n = c2 at *
  by_cases h1 : c1 = 0
  · subst h1
    have hr := hr rfl
    by_cases h2 : c2 = 0
    · subst h2
      have hrd := hrd rfl
      repeat' ((conv => whnf); first
        | (refine Br.tt ?_)
        | (refine Br.ff ?_)
        | (refine Need.mk (by first | omega | (simp; done) | (simp; omega)) ?_)
        | (refine Wr.keep (by omega) ?_)
        | (refine Cmp.tt (by first | omega | decide) ?_)
        | (refine Cmp.ff (by first | omega | decide) ?_)
        | (refine Rem.pos (by omega) ?_)
        | (refine Quo.pos (by omega) ?_)
        | (refine PickV.now rfl ?_)
        | (refine Pick.now rfl ?_)
        | (refine PickW.now (by first | omega | decide) rfl ?_)
        | (refine CallI.of (s_awake g) ?_)
        | (refine CallI.of hs ?_)
        | (refine CallI.of key1 ?_)
        | (refine CallI.of hr ?_)
        | (refine CallI.of (w_zone g _ _ hl) ?_)
        | (refine CallI.of (r_SameZone g _ _ hl) ?_)
        | (refine CallI.of hsd ?_)
        | (refine CallI.of key2 ?_)
        | (refine CallI.of hrd ?_)
        | (refine CallI.of (w_list_ok g _ hm) ?_)
        | (refine CallI.of (w_list_bad g _ h2) ?_)
        | (refine Ret.mk rfl))
    · obtain rfl := hdb h2
      repeat' ((conv => whnf); first
        | (refine Br.tt ?_)
        | (refine Br.ff ?_)
        | (refine Need.mk (by first | omega | (simp; done) | (simp; omega)) ?_)
        | (refine Wr.keep (by omega) ?_)
        | (refine Cmp.tt (by first | omega | decide) ?_)
        | (refine Cmp.ff (by first | omega | decide) ?_)
        | (refine Rem.pos (by omega) ?_)
        | (refine Quo.pos (by omega) ?_)
        | (refine PickV.now rfl ?_)
        | (refine Pick.now rfl ?_)
        | (refine PickW.now (by first | omega | decide) rfl ?_)
        | (refine CallI.of (s_awake g) ?_)
        | (refine CallI.of hs ?_)
        | (refine CallI.of key1 ?_)
        | (refine CallI.of hr ?_)
        | (refine CallI.of (w_zone g _ _ hl) ?_)
        | (refine CallI.of (r_SameZone g _ _ hl) ?_)
        | (refine CallI.of hsd ?_)
        | (refine CallI.of key2 ?_)
        | (refine CallI.of hrd ?_)
        | (refine CallI.of (w_list_ok g _ hm) ?_)
        | (refine CallI.of (w_list_bad g _ h2) ?_)
        | (refine Ret.mk rfl))
  · obtain ⟨rfl, rfl⟩ := hbad h1
    by_cases h2 : c2 = 0
    · subst h2
      have hrd := hrd rfl
      repeat' ((conv => whnf); first
        | (refine Br.tt ?_)
        | (refine Br.ff ?_)
        | (refine Need.mk (by first | omega | (simp; done) | (simp; omega)) ?_)
        | (refine Wr.keep (by omega) ?_)
        | (refine Cmp.tt (by first | omega | decide) ?_)
        | (refine Cmp.ff (by first | omega | decide) ?_)
        | (refine Rem.pos (by omega) ?_)
        | (refine Quo.pos (by omega) ?_)
        | (refine PickV.now rfl ?_)
        | (refine Pick.now rfl ?_)
        | (refine PickW.now (by first | omega | decide) rfl ?_)
        | (refine CallI.of (s_awake g) ?_)
        | (refine CallI.of hs ?_)
        | (refine CallI.of key1 ?_)
        | (refine CallI.of hr ?_)
        | (refine CallI.of (w_zone g _ _ hl) ?_)
        | (refine CallI.of (r_SameZone g _ _ hl) ?_)
        | (refine CallI.of hsd ?_)
        | (refine CallI.of key2 ?_)
        | (refine CallI.of hrd ?_)
        | (refine CallI.of (w_list_ok g _ hm) ?_)
        | (refine CallI.of (w_list_bad g _ h2) ?_)
        | (refine Ret.mk rfl))
    · obtain rfl := hdb h2
      repeat' ((conv => whnf); first
        | (refine Br.tt ?_)
        | (refine Br.ff ?_)
        | (refine Need.mk (by first | omega | (simp; done) | (simp; omega)) ?_)
        | (refine Wr.keep (by omega) ?_)
        | (refine Cmp.tt (by first | omega | decide) ?_)
        | (refine Cmp.ff (by first | omega | decide) ?_)
        | (refine Rem.pos (by omega) ?_)
        | (refine Quo.pos (by omega) ?_)
        | (refine PickV.now rfl ?_)
        | (refine Pick.now rfl ?_)
        | (refine PickW.now (by first | omega | decide) rfl ?_)
        | (refine CallI.of (s_awake g) ?_)
        | (refine CallI.of hs ?_)
        | (refine CallI.of key1 ?_)
        | (refine CallI.of hr ?_)
        | (refine CallI.of (w_zone g _ _ hl) ?_)
        | (refine CallI.of (r_SameZone g _ _ hl) ?_)
        | (refine CallI.of hsd ?_)
        | (refine CallI.of key2 ?_)
        | (refine CallI.of hrd ?_)
        | (refine CallI.of (w_list_ok g _ hm) ?_)
        | (refine CallI.of (w_list_bad g _ h2) ?_)
        | (refine Ret.mk rfl))
end

theorem s_CalendarSummers {E : Oracle} (g : Good E) {xs : List D} (h : fitArgs Tryz.prog [3, 46, 46] xs) : Fc E n_law01_CalendarSummers (asV xs) (B true) := by
  obtain ⟨x, y, z, rfl, h1, h2, h3⟩ := args3 h
  obtain ⟨o, rfl, _⟩ := arg_int h1
  obtain ⟨ds, rfl, h4⟩ := arg_ar Tryz.underlying46 h2
  obtain ⟨es, rfl, h5⟩ := arg_ar Tryz.underlying46 h3
  obtain ⟨l, rfl, hl, _⟩ := fit_ints 2 h4
  obtain ⟨m, rfl, hm, _⟩ := fit_ints 2 h5
  match l, m, hl, hm with
  | [f, t], [key, n], _, _ => exact w_CalendarSummers g o f t key n
end Go.Proofs.YtlboecjgelnabaaGreatDoor.Co

