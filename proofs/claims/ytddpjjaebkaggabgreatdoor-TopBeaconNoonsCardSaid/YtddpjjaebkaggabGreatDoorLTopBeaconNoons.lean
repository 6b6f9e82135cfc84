
/-
  TopBeaconNoons returns true, for every offset, year and place.
-/
import Derived.Test.YtddpjjaebkaggabGreatDoorFit
import Derived.Test.YtddpjjaebkaggabGreatDoorPlNoon
import Derived.Test.YtddpjjaebkaggabGreatDoorPlYear
import Derived.Test.YtddpjjaebkaggabGreatDoorAwT
namespace Go.Proofs.YtddpjjaebkaggabGreatDoor.Co
open Go Go.Evl
set_option maxRecDepth 100000
theorem tmod_600 (o : Int) : -599 ≤ o.tmod 600 ∧ o.tmod 600 ≤ 599 := by
  rw [Int.tmod_eq_emod]
  split <;> omega
section
variable {E : Oracle} (g : Good E)
include g
theorem noon_facts {o y day : Int} (hy : 2000 ≤ y ∧ y ≤ 2272) (ho : -599 ≤ o ∧ o ≤ 599) (hd : 0 ≤ day ∧ day ≤ 99990) : ∃ u t : Int, u = 1440 * day + 720 - o - t ∧ ((t = 60 ∧ sunM y 3 ≤ day ∧ day < sunM y 10) ∨ (t = 0 ∧ ¬ (sunM y 3 ≤ day ∧ day < sunM y 10))) ∧
    Fc E n_calendar_Universal [Zo o (sumL o y 1), I (1440 * day + 720)] (.tup [LI [u], I 0]) ∧ Fc E n_calendar_Local [Zo o (sumL o y 1), I u] (.tup [I (1440 * day + 720), I 0]) := by
  have hl : (sumL o y 1).length ≤ 1048576 := by rw [sumL_length]; omega
  have hz := sum1_chk o y hy ho
  have h1 := s_Universal_ok g o (sumL o y 1) (1440 * day + 720) hl hz (rng_zero.2 (by omega))
  rw [noon hy ho hd, if_neg (List.cons_ne_nil _ _)] at h1
  obtain ⟨hb, hc⟩ := noon_back hy ho hd rfl
  have h2 := s_Local_ok g o (sumL o y 1) _ hl hz (rng_zero.2 hb)
  rw [hc, if_pos (rng_zero.2 (by omega))] at h2
  refine ⟨_, (if sunM y 3 ≤ day ∧ day < sunM y 10 then 60 else 0), rfl, ?_, h1, h2⟩
  split
  · rename_i h; exact .inl ⟨rfl, h.1, h.2⟩
  · rename_i h; exact .inr ⟨rfl, h⟩
set_option maxHeartbeats 8000000 in
theorem noons_loop {o y : Int} (hy : 2000 ≤ y ∧ y ≤ 2272) (ho : -599 ≤ o ∧ o ≤ 599) (days : List Int) (hn : days.length = 3) (hd : ∀ k, k < 3 → 1 ≤ days.getD k 0 ∧ days.getD k 0 ≤ 99990) (K : Ex → Env → Mem → Prop)
    (hk : K (.exit 0) [(9, .ptr ⟨0, 9, 0⟩ 0 0), (13, .ptr ⟨0, 13, 0⟩ 0 0), (64, LI days), (65, I 3), (66, I 3), (67, B false)] [(⟨0, 9, 0⟩, .cells ty_calendar_Zone [I o, .d (.list (sumL o y 1).length ((sumL o y 1).flatMap cellC))]), (⟨0, 13, 0⟩, .cells ty_api_Period [I (sunM y 3), I (sunM y 10 - 1), I 127])]) :
    LoopW E ⟨0, 1⟩ [9, 13, 64, 65, 66] [⟨0, 9, 0⟩, ⟨0, 13, 0⟩] b_top_TopBeaconNoons_1 [(9, .ptr ⟨0, 9, 0⟩ 0 0), (13, .ptr ⟨0, 13, 0⟩ 0 0), (64, LI days), (65, I 3), (66, I 0)]
      [(⟨0, 9, 0⟩, .cells ty_calendar_Zone [I o, .d (.list (sumL o y 1).length ((sumL o y 1).flatMap cellC))]), (⟨0, 13, 0⟩, .cells ty_api_Period [I (sunM y 3), I (sunM y 10 - 1), I 127])] K := by
  refine LoopW.to (LoopW.up g (fun k => [(9, .ptr ⟨0, 9, 0⟩ 0 0), (13, .ptr ⟨0, 13, 0⟩ 0 0), (64, LI days), (65, I 3), (66, I k)]) (fun _ => [(⟨0, 9, 0⟩, .cells ty_calendar_Zone [I o, .d (.list (sumL o y 1).length ((sumL o y 1).flatMap cellC))]), (⟨0, 13, 0⟩, .cells ty_api_Period [I (sunM y 3), I (sunM y 10 - 1), I 127])]) 3 (fun k hk2 ih => ?_) 0 (by decide)) rfl rfl
  have hf := sunM_facts y hy
  by_cases hlt : k < 3
  · have hdk := hd k hlt
    obtain ⟨u1, t1, e1, c1, f1, -⟩ := noon_facts g (day := days.getD k 0 - 1) hy ho (by omega)
    obtain ⟨u2, t2, e2, c2, f2, f3⟩ := noon_facts g (day := days.getD k 0) hy ho (by omega)
    generalize sumL o y 1 = l at *
    have hp : (days.getD ((k : Int).toNat) 0) = days.getD k 0 := by simp
    have hcase : (days.getD k 0 = sunM y 3 ∧ t2 = t1 + 60) ∨ (days.getD k 0 = sunM y 10 ∧ days.getD k 0 ≠ sunM y 3 ∧ t1 = t2 + 60) ∨ (days.getD k 0 ≠ sunM y 3 ∧ days.getD k 0 ≠ sunM y 10 ∧ t1 = t2) := by omega
    clear c1 c2
    generalize sunM y 3 = q3 at *
    generalize sunM y 10 = q10 at *
    rcases hcase with ⟨h1, h2⟩ | ⟨h1, h2, h3⟩ | ⟨h1, h2, h3⟩
    all_goals (repeat' ((conv => whnf); first
    | refine Br.tt ?_
    | refine Br.ff ?_
    | refine Need.w ?_
    | refine Wr.w ?_
    | refine Cmp.t ?_
    | refine Cmp.f ?_
    | refine Rem.w ?_
    | refine Quo.w ?_
    | refine PickV.now rfl ?_
    | refine Pick.now rfl ?_
    | refine Chk.mk rfl ?_
    | refine PickW.w rfl ?_
      | (refine Pick.at k (by omega) (by omega) ?_)
      | (apply CallI.of; assumption)
      | (refine Cmp.tt (by simp only [List.length_cons, List.length_nil]; omega) ?_)
      | (refine Cmp.ff (by simp only [List.length_cons, List.length_nil]; omega) ?_)
      | (refine LoopW.to (ih hlt) rfl rfl)))
  · have e3 : k = 3 := by omega
    subst e3
    repeat' ((conv => whnf); first
    | refine Br.tt ?_
    | refine Br.ff ?_
    | refine Need.w ?_
    | refine Wr.w ?_
    | refine Cmp.t ?_
    | refine Cmp.f ?_
    | refine Rem.w ?_
    | refine Quo.w ?_
    | refine PickV.now rfl ?_
    | refine Pick.now rfl ?_
    | refine Chk.mk rfl ?_
    | refine PickW.w rfl ?_
      | (exact hk))
set_option maxHeartbeats 8000000 in
theorem w_TopBeaconNoons (off year place : Int) (hyr : 0 ≤ year ∧ year ≤ 65535) (hpl : 0 ≤ place ∧ place ≤ 65535) : Fc E n_top_TopBeaconNoons [I off, .d (.int .u16 year), .d (.int .u16 place)] (B true) := by
  have bd := s_beacon g
  have ho := tmod_600 off
  obtain ⟨y, hyy⟩ : ∃ y, y = 2000 + year % 272 := ⟨_, rfl⟩
  have hy : 2000 ≤ y ∧ y ≤ 2271 := by omega
  have hf := sunM_facts y (by omega)
  have hm := march y hy.1
  have hs := sun_le (dayN y 3 31)
  have e3 : sunM y 3 = sun (dayN y 3 31) := rfl
  have k1 := daysY_le (y - 2000).toNat
  have k2 : daysY ((y - 2000).toNat + 1) ≤ daysY 272 := daysY_mono (by omega)
  have k3 := daysY_272
  have k4 := lenY_le (2000 + ((y - 2000).toNat : Int))
  simp only [daysY] at k2
  have hd2 : IsDate (daysY (y - 2000).toNat + 1) y 1 2 := by
    refine ⟨by omega, by omega, ⟨by omega, by have := lenM_le y 1; omega⟩, ?_⟩
    unfold dayN
    rw [show (1 - 1 : Int).toNat = 0 from rfl]
    simp [daysM]
    omega
  have f1 := s_Summer_ok g (off.tmod 600) y y (chkSum_zero.2 (by omega))
  rw [show (y - y + 1).toNat = 1 by omega] at f1
  have f2 := s_Day_ok g y 1 2 (chkDate_of hd2 (by omega))
  rw [hd2.e] at f2
  have f3 : Fc E n_calendar_Span [.d (.agg [DI y, .str [83]])] (.tup [Per (sunM y 3) (sunM y 10 - 1) 127, I 0]) := s_Span_ok g y false (by omega)
  have hloop := noons_loop g (o := off.tmod 600) (y := y) (by omega) ho [daysY (y - 2000).toNat + 1 + place % 362, sunM y 3, sunM y 10 - 1 + 1] rfl (fun k hk => by
    match k, hk with
    | 0, _ => simp; omega
    | 1, _ => simp; split at hm <;> omega
    | 2, _ => simp; omega)
  obtain ⟨o, hoo⟩ : ∃ o, o = off.tmod 600 := ⟨_, rfl⟩
  rw [← hoo] at ho f1 hloop
  generalize sunM y 3 = q3 at *
  generalize sunM y 10 = q10 at *
  generalize daysY (y - 2000).toNat = n0 at *
  generalize hl : sumL o y 1 = l at *
  clear hl
  refine g.fn code_top_TopBeaconNoons rfl ?_
  subst hyy hoo
  repeat' ((conv => whnf); first
  | refine Br.tt ?_
  | refine Br.ff ?_
  | refine Need.w ?_
  | refine Wr.w ?_
  | refine Cmp.t ?_
  | refine Cmp.f ?_
  | refine Rem.w ?_
  | refine Quo.w ?_
  | refine PickV.now rfl ?_
  | refine Pick.now rfl ?_
  | refine Chk.mk rfl ?_
  | refine PickW.w rfl ?_
    | (refine Rem.mk (by decide) ?_)
    | (apply CallI.of; assumption)
    )
  conv => whnf
  refine hloop _ ?_
  repeat' ((conv => whnf); first
  | refine Br.tt ?_
  | refine Br.ff ?_
  | refine Need.w ?_
  | refine Wr.w ?_
  | refine Cmp.t ?_
  | refine Cmp.f ?_
  | refine Rem.w ?_
  | refine Quo.w ?_
  | refine PickV.now rfl ?_
  | refine Pick.now rfl ?_
  | refine Chk.mk rfl ?_
  | refine PickW.w rfl ?_
    | (apply CallI.of; assumption)
    | (refine Ret.mk rfl))
end
theorem s_TopBeaconNoons {E : Oracle} (g : Good E) {xs : List D} (h : fitArgs Tryz.prog [3, 22, 22] xs) : Fc E n_top_TopBeaconNoons (asV xs) (B true) := by
  obtain ⟨x, y, z, rfl, h1, h2, h3⟩ := args3 h
  obtain ⟨a, rfl, _⟩ := arg_int h1
  obtain ⟨b, rfl, hb⟩ := arg_i Tryz.underlying22 h2
  obtain ⟨c, rfl, hc⟩ := arg_i Tryz.underlying22 h3
  simp only [Lit.wf, Bool.and_eq_true, decide_eq_true_eq] at hb hc
  exact w_TopBeaconNoons g a b c hb hc
end Go.Proofs.YtddpjjaebkaggabGreatDoor.Co
