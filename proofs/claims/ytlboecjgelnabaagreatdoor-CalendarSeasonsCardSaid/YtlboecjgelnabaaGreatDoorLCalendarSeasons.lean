
/-
  CalendarSeasons returns true, for every season and day.
-/
import Derived.Test.YtlboecjgelnabaaGreatDoorFit
import Derived.Test.YtlboecjgelnabaaGreatDoorSpSec
import Derived.Test.YtlboecjgelnabaaGreatDoorSpLaw
import Derived.Test.YtlboecjgelnabaaGreatDoorAwake
namespace Go.Proofs.YtlboecjgelnabaaGreatDoor.Co
open Go Go.Evl
set_option maxRecDepth 100000

section
variable {E : Oracle} (g : Good E)
include g

/-- What is known of a season's own answers. -/
structure Own (E : Oracle) (y : Int) (k : List UInt8) (c : Int) (p1 p2 p3 yn : Int) (kn : List UInt8) (en : Int) (isn : Bool) (yp : Int) (kp : List UInt8) (ep : Int) (isp : Bool) : Prop where
  span : Fc E n_calendar_Span [Sn y k] (.tup [Per p1 p2 p3, I c])
  next : Fc E n_calendar_Next [Sn y k] (.tup [Sn yn kn, I en])
  prev : Fc E n_calendar_Previous [Sn y k] (.tup [Sn yp kp, I ep])
  ok : c = 0 → Fc E n_ref01_Span [Sn y k] (Per p1 p2 p3) ∧ Fc E n_ref01_Next [Sn y k] (.tup [Sn yn kn, B isn]) ∧ Fc E n_ref01_Previous [Sn y k] (.tup [Sn yp kp, B isp]) ∧ en = (if isn then 0 else 7) ∧ ep = (if isp then 0 else 7)
  bad : c ≠ 0 → p1 = 0 ∧ p2 = 0 ∧ p3 = 0 ∧ yn = 0 ∧ kn = [] ∧ en = c ∧ yp = 0 ∧ kp = [] ∧ ep = c

theorem exists_own (y : Int) (k : List UInt8) : ∃ p1 p2 p3 yn kn en isn yp kp ep isp, Own E y k (chkSea y k) p1 p2 p3 yn kn en isn yp kp ep isp := by
  by_cases h : chkSea y k = 0
  · obtain ⟨hy, w, rfl⟩ := chkSea_zero.1 h
    rw [h]
    have hn : ∃ yn kn en isn, Fc E n_calendar_Next [Sn y (kd w)] (.tup [Sn yn kn, I en]) ∧ Fc E n_ref01_Next [Sn y (kd w)] (.tup [Sn yn kn, B isn]) ∧ en = (if isn then 0 else 7) := by
      by_cases hc : y = 2272 ∧ w = true
      · obtain ⟨rfl, rfl⟩ := hc
        exact ⟨_, _, _, _, s_Next_last g, r_Next_last g, rfl⟩
      · exact ⟨_, _, _, _, s_Next_ok g y w hy hc, r_Next_ok g y w hy hc, rfl⟩
    have hp : ∃ yp kp ep isp, Fc E n_calendar_Previous [Sn y (kd w)] (.tup [Sn yp kp, I ep]) ∧ Fc E n_ref01_Previous [Sn y (kd w)] (.tup [Sn yp kp, B isp]) ∧ ep = (if isp then 0 else 7) := by
      cases w
      · by_cases hc : y = 2000
        · subst hc
          exact ⟨_, _, _, _, s_Prev_first g, r_Prev_first g, rfl⟩
        · exact ⟨_, _, _, _, s_Prev_S g y (by omega), r_Prev_S g y (by omega), rfl⟩
      · exact ⟨_, _, _, _, s_Prev_W g y hy, r_Prev_W g y hy, rfl⟩
    obtain ⟨yn, kn, en, isn, n1, n2, n3⟩ := hn
    obtain ⟨yp, kp, ep, isp, q1, q2, q3⟩ := hp
    exact ⟨_, _, _, yn, kn, en, isn, yp, kp, ep, isp, s_Span_ok g y w hy, n1, q1, fun _ => ⟨r_Span g y w hy, n2, q2, n3, q3⟩, fun hn => absurd rfl hn⟩
  · exact ⟨0, 0, 0, 0, [], _, true, 0, [], _, true, s_Span_bad g y k h, s_Next_bad g y k h, s_Prev_bad g y k h, fun hn => absurd hn h, fun _ => ⟨rfl, rfl, rfl, rfl, rfl, rfl, rfl, rfl, rfl⟩⟩

/-- What is known of a day's season. -/
structure Of (E : Oracle) (day : Int) (c : Int) (yo : Int) (ko : List UInt8) (eo : Int) (is : Bool) : Prop where
  of : Fc E n_calendar_SeasonOf [I day] (.tup [Sn yo ko, I eo])
  ok : c = 0 → Fc E n_ref01_SeasonOf [I day] (.tup [Sn yo ko, B is]) ∧ eo = (if is then 0 else 30)
  bad : c ≠ 0 → yo = 0 ∧ ko = [] ∧ eo = c
  sea : eo = 0 → ∃ w, ko = kd w ∧ InSea day yo w ∧ 0 ≤ day ∧ day ≤ 99999

theorem exists_of (day : Int) : ∃ yo ko eo is, Of E day (rng day 0 99999) yo ko eo is := by
  by_cases h : rng day 0 99999 = 0
  · have h0 := rng_zero.1 h
    rw [h]
    by_cases ho : day < beg 2000 false ∨ beg 2273 false ≤ day
    · exact ⟨0, [], 30, false, s_SeasonOf_out g day h0 ho, fun _ => ⟨r_SeasonOf_out g day h0 ho, rfl⟩, fun hn => absurd rfl hn, fun hn => absurd hn (by decide)⟩
    · obtain ⟨y, w, hin⟩ := exists_season (day := day) (by omega) (by omega) h0.2
      exact ⟨y, kd w, 0, true, s_SeasonOf_in g h0.2 hin, fun _ => ⟨r_SeasonOf_in g h0 hin, rfl⟩, fun hn => absurd rfl hn, fun _ => ⟨w, rfl, hin, h0⟩⟩
  · exact ⟨0, [], _, false, s_SeasonOf_bad g day h, fun hn => absurd hn h, fun _ => ⟨rfl, rfl, rfl⟩, fun hn => absurd hn h⟩

set_option maxHeartbeats 4000000 in
theorem w_Seasons_bad (y : Int) (k : List UInt8) (day : Int) (h : chkSea y k ≠ 0) : Fc E n_law01_CalendarSeasons [Sn y k, I day] (B true) := by
  refine g.fn code_law01_CalendarSeasons rfl ?_
  obtain ⟨p1, p2, p3, yn, kn, en, isn, yp, kp, ep, isp, o⟩ := exists_own g y k
  obtain ⟨yo, ko, eo, is, f⟩ := exists_of g day
  obtain ⟨rfl, rfl, rfl, rfl, rfl, rfl, rfl, rfl, rfl⟩ := o.bad h
  have hc1 := s_CheckSeason g y k
  have hc2 := r_CheckSeason g y k
  have hc3 := r_CheckDay g day
  have hsp := o.span
  have hnx := o.next
  have hpv := o.prev
  have hof := f.of
  have hne : firstI [eo, chkSea y k, if ko = k then 0 else 13] ≠ 0 := by simp only [firstI]; split <;> omega
  have heq := s_Equiv_bad g y k hof hne
  have hfe : firstI [eo, chkSea y k, if ko = k then 0 else 13] = firstI [eo, chkSea y k] := by
    simp only [firstI]
    split
    · simp
    · rfl
  have hf2 := w_first2 g eo (chkSea y k)
  rw [hfe] at heq hne
  have hnb := w_number_bad g _ 0 hne
  by_cases hc : rng day 0 99999 = 0
  · obtain ⟨r1, rfl⟩ := f.ok hc
    rw [hc] at hc3
    generalize chkSea y k = c at *
    cases is
    all_goals simp only [if_true, if_false, Bool.false_eq_true] at *
    all_goals generalize firstI [_, c] = z at *
    all_goals repeat' ((conv => whnf); first
      | (refine Br.tt ?_)
      | (refine Br.ff ?_)
      | (refine Need.mk (by first | omega | (simp; done) | (simp; omega)) ?_)
      | (refine Wr.keep (by omega) ?_)
      | (refine Cmp.tt (by first | omega | decide) ?_)
      | (refine Cmp.ff (by first | omega | decide) ?_)
      | (refine Rem.pos (by omega) ?_)
      | (refine Quo.pos (by omega) ?_)
      | (refine PickV.now rfl ?_)
      | (refine Pick.now rfl ?_)
      | (refine PickW.now (by first | omega | decide) rfl ?_)
      | (refine CallI.of (s_awake g) ?_)
      | (refine CallI.of hc1 ?_)
      | (refine CallI.of hc2 ?_)
      | (refine CallI.of hc3 ?_)
      | (refine CallI.of hsp ?_)
      | (refine CallI.of hnx ?_)
      | (refine CallI.of hpv ?_)
      | (refine CallI.of hof ?_)
      | (refine CallI.of heq ?_)
      | (refine CallI.of r1 ?_)
      | (refine CallI.of hf2 ?_)
      | (refine CallI.of hnb ?_)
      | (refine Cmp.tt (by simp; done) ?_)
      | (refine Need.mk (by simp [win]; done) ?_)
      | (refine Ret.mk rfl))
  · obtain ⟨rfl, rfl, rfl⟩ := f.bad hc
    generalize rng day 0 99999 = c2 at *
    generalize chkSea y k = c at *
    generalize firstI [_, c] = z at *
    repeat' ((conv => whnf); first
      | (refine Br.tt ?_)
      | (refine Br.ff ?_)
      | (refine Need.mk (by first | omega | (simp; done) | (simp; omega)) ?_)
      | (refine Wr.keep (by omega) ?_)
      | (refine Cmp.tt (by first | omega | decide) ?_)
      | (refine Cmp.ff (by first | omega | decide) ?_)
      | (refine Rem.pos (by omega) ?_)
      | (refine Quo.pos (by omega) ?_)
      | (refine PickV.now rfl ?_)
      | (refine Pick.now rfl ?_)
      | (refine PickW.now (by first | omega | decide) rfl ?_)
      | (refine CallI.of (s_awake g) ?_)
      | (refine CallI.of hc1 ?_)
      | (refine CallI.of hc2 ?_)
      | (refine CallI.of hc3 ?_)
      | (refine CallI.of hsp ?_)
      | (refine CallI.of hnx ?_)
      | (refine CallI.of hpv ?_)
      | (refine CallI.of hof ?_)
      | (refine CallI.of heq ?_)
      | (refine CallI.of hf2 ?_)
      | (refine CallI.of hnb ?_)
      | (refine Cmp.tt (by simp; done) ?_)
      | (refine Need.mk (by simp [win]; done) ?_)
      | (refine Ret.mk rfl))

set_option maxHeartbeats 4000000 in
theorem w_Seasons_ok (y : Int) (w : Bool) (day : Int) (hy : 2000 ≤ y ∧ y ≤ 2272) : Fc E n_law01_CalendarSeasons [Sn y (kd w), I day] (B true) := by
  refine g.fn code_law01_CalendarSeasons rfl ?_
  have h := chkSea_zero.2 ⟨hy, w, rfl⟩
  obtain ⟨p1, p2, p3, yn, kn, en, isn, yp, kp, ep, isp, o⟩ := exists_own g y (kd w)
  obtain ⟨yo, ko, eo, is, f⟩ := exists_of g day
  rw [h] at o
  obtain ⟨o1, o2, o3, rfl, rfl⟩ := o.ok rfl
  have hc1 := s_CheckSeason g y (kd w)
  have hc2 := r_CheckSeason g y (kd w)
  rw [h] at hc1 hc2
  have hc3 := r_CheckDay g day
  have hsp := o.span
  have hnx := o.next
  have hpv := o.prev
  have hof := f.of
  have hf2 := w_first2 g eo 0
  by_cases he : eo = 0
  · obtain ⟨w0, rfl, hin, h0⟩ := f.sea he
    have hc : rng day 0 99999 = 0 := rng_zero.2 h0
    rw [hc] at hc3 f
    obtain ⟨r1, hisn⟩ := f.ok rfl
    subst he
    have his : is = true := by cases is; simp at hisn; rfl
    subst his
    clear hisn
    have hf2 : Fc E n_law01_first [.d (.list 2 [DI 0, DI 0])] (I 0) := hf2
    by_cases hw : w0 = w
    · subst hw
      have heq := s_Equiv_ok g y h0.2 hin hy
      have e1 := s_Span_ok g y w0 hy
      have hsp' := r_Span g y w0 hy
      have hso' := r_Span g yo w0 hin.hy
      have l1 := beg_next y w0 (by omega)
      have l2 := beg_next yo w0 (by have := hin.hy; omega)
      have l3 := hin.lo
      have l4 := hin.hi
      clear o1 hsp hin
      generalize beg (nxY y w0) (!w0) = n2 at *
      generalize beg y w0 = n1 at *
      generalize beg (nxY yo w0) (!w0) = m2 at *
      generalize beg yo w0 = m1 at *
      by_cases hto : n2 ≤ n1 + day - m1
      · rw [if_pos hto] at heq
        have hnb := w_number_bad g 7 0 (by decide)
        cases isn <;> cases isp
        all_goals repeat' ((conv => whnf); first
          | (refine Br.tt ?_)
          | (refine Br.ff ?_)
          | (refine Need.mk (by first | omega | (simp; done) | (simp; omega)) ?_)
          | (refine Wr.keep (by omega) ?_)
          | (refine Cmp.tt (by first | omega | decide) ?_)
          | (refine Cmp.ff (by first | omega | decide) ?_)
          | (refine Rem.pos (by omega) ?_)
          | (refine Quo.pos (by omega) ?_)
          | (refine PickV.now rfl ?_)
          | (refine Pick.now rfl ?_)
          | (refine PickW.now (by first | omega | decide) rfl ?_)
          | (refine CallI.of (s_awake g) ?_)
          | (refine CallI.of hc1 ?_)
          | (refine CallI.of hc2 ?_)
          | (refine CallI.of hc3 ?_)
          | (refine CallI.of e1 ?_)
          | (refine CallI.of hnx ?_)
          | (refine CallI.of hpv ?_)
          | (refine CallI.of hof ?_)
          | (refine CallI.of heq ?_)
          | (refine CallI.of hsp' ?_)
          | (refine CallI.of o2 ?_)
          | (refine CallI.of o3 ?_)
          | (refine CallI.of hf2 ?_)
          | (refine CallI.of r1 ?_)
          | (refine CallI.of hso' ?_)
          | (refine CallI.of hnb ?_)
          | (refine Cmp.tt (by simp; done) ?_)
          | (refine Need.mk (by simp [win]; done) ?_)
          | (refine Ret.mk rfl))
      · rw [if_neg hto] at heq
        have hnb := w_number_ok g (n1 + day - m1)
        rw [show n1 + day - m1 = day - m1 + n1 by omega] at hnb heq
        cases isn <;> cases isp
        all_goals repeat' ((conv => whnf); first
          | (refine Br.tt ?_)
          | (refine Br.ff ?_)
          | (refine Need.mk (by first | omega | (simp; done) | (simp; omega)) ?_)
          | (refine Wr.keep (by omega) ?_)
          | (refine Cmp.tt (by first | omega | decide) ?_)
          | (refine Cmp.ff (by first | omega | decide) ?_)
          | (refine Rem.pos (by omega) ?_)
          | (refine Quo.pos (by omega) ?_)
          | (refine PickV.now rfl ?_)
          | (refine Pick.now rfl ?_)
          | (refine PickW.now (by first | omega | decide) rfl ?_)
          | (refine CallI.of (s_awake g) ?_)
          | (refine CallI.of hc1 ?_)
          | (refine CallI.of hc2 ?_)
          | (refine CallI.of hc3 ?_)
          | (refine CallI.of e1 ?_)
          | (refine CallI.of hnx ?_)
          | (refine CallI.of hpv ?_)
          | (refine CallI.of hof ?_)
          | (refine CallI.of heq ?_)
          | (refine CallI.of hsp' ?_)
          | (refine CallI.of o2 ?_)
          | (refine CallI.of o3 ?_)
          | (refine CallI.of hf2 ?_)
          | (refine CallI.of r1 ?_)
          | (refine CallI.of hso' ?_)
          | (refine CallI.of hnb ?_)
          | (refine Cmp.tt (by simp; done) ?_)
          | (refine Need.mk (by simp [win]; done) ?_)
          | (refine Ret.mk rfl))
    · have hkk : ¬ kd w0 = kd w := by cases w0 <;> cases w <;> simp [kd] at hw ⊢
      have heq := s_Equiv_bad g y (kd w) hof (by rw [h, if_neg hkk]; decide)
      rw [h, if_neg hkk] at heq
      have heq : Fc E n_calendar_Equivalent [I day, Sn y (kd w)] (.tup [I 0, I 13]) := heq
      have hnb := w_number_bad g 13 0 (by decide)
      cases isn <;> cases isp
      all_goals repeat' ((conv => whnf); first
        | (refine Br.tt ?_)
        | (refine Br.ff ?_)
        | (refine Need.mk (by first | omega | (simp; done) | (simp; omega)) ?_)
        | (refine Wr.keep (by omega) ?_)
        | (refine Cmp.tt (by first | omega | decide) ?_)
        | (refine Cmp.ff (by first | omega | decide) ?_)
        | (refine Rem.pos (by omega) ?_)
        | (refine Quo.pos (by omega) ?_)
        | (refine PickV.now rfl ?_)
        | (refine Pick.now rfl ?_)
        | (refine PickW.now (by first | omega | decide) rfl ?_)
          | (refine CallI.of (s_awake g) ?_)
          | (refine CallI.of hc1 ?_)
          | (refine CallI.of hc2 ?_)
          | (refine CallI.of hc3 ?_)
          | (refine CallI.of hsp ?_)
          | (refine CallI.of hnx ?_)
          | (refine CallI.of hpv ?_)
          | (refine CallI.of hof ?_)
          | (refine CallI.of heq ?_)
          | (refine CallI.of o1 ?_)
          | (refine CallI.of o2 ?_)
          | (refine CallI.of o3 ?_)
          | (refine CallI.of hf2 ?_)
          | (refine CallI.of r1 ?_)
          | (refine CallI.of hnb ?_)
          | (refine Cmp.ff hkk ?_)
          | (refine Cmp.tt (by simp; done) ?_)
          | (refine Need.mk (by simp [win]; done) ?_)
          | (refine Ret.mk rfl))
  · have hz : firstI [eo, 0] = eo := by simp [firstI, he]
    have hz3 : firstI [eo, 0, if ko = kd w then 0 else 13] = eo := by simp [firstI, he]
    have heq := s_Equiv_bad g y (kd w) hof (by rw [h, hz3]; exact he)
    rw [h, hz3] at heq
    rw [hz] at hf2
    have hnb := w_number_bad g eo 0 he
    by_cases hc : rng day 0 99999 = 0
    · rw [hc] at hc3 f
      obtain ⟨r1, hisn⟩ := f.ok rfl
      have his : is = false := by cases is; rfl; exact absurd hisn he
      subst his
      have hisn : eo = 30 := hisn
      subst hisn
      cases isn <;> cases isp
      all_goals repeat' ((conv => whnf); first
        | (refine Br.tt ?_)
        | (refine Br.ff ?_)
        | (refine Need.mk (by first | omega | (simp; done) | (simp; omega)) ?_)
        | (refine Wr.keep (by omega) ?_)
        | (refine Cmp.tt (by first | omega | decide) ?_)
        | (refine Cmp.ff (by first | omega | decide) ?_)
        | (refine Rem.pos (by omega) ?_)
        | (refine Quo.pos (by omega) ?_)
        | (refine PickV.now rfl ?_)
        | (refine Pick.now rfl ?_)
        | (refine PickW.now (by first | omega | decide) rfl ?_)
          | (refine CallI.of (s_awake g) ?_)
          | (refine CallI.of hc1 ?_)
          | (refine CallI.of hc2 ?_)
          | (refine CallI.of hc3 ?_)
          | (refine CallI.of hsp ?_)
          | (refine CallI.of hnx ?_)
          | (refine CallI.of hpv ?_)
          | (refine CallI.of hof ?_)
          | (refine CallI.of heq ?_)
          | (refine CallI.of o1 ?_)
          | (refine CallI.of o2 ?_)
          | (refine CallI.of o3 ?_)
          | (refine CallI.of hf2 ?_)
          | (refine CallI.of r1 ?_)
          | (refine CallI.of hnb ?_)
          | (refine Cmp.tt (by simp; done) ?_)
          | (refine Need.mk (by simp [win]; done) ?_)
          | (refine Ret.mk rfl))
    · obtain ⟨rfl, rfl, rfl⟩ := f.bad hc
      generalize rng day 0 99999 = c2 at *
      cases isn <;> cases isp
      all_goals repeat' ((conv => whnf); first
        | (refine Br.tt ?_)
        | (refine Br.ff ?_)
        | (refine Need.mk (by first | omega | (simp; done) | (simp; omega)) ?_)
        | (refine Wr.keep (by omega) ?_)
        | (refine Cmp.tt (by first | omega | decide) ?_)
        | (refine Cmp.ff (by first | omega | decide) ?_)
        | (refine Rem.pos (by omega) ?_)
        | (refine Quo.pos (by omega) ?_)
        | (refine PickV.now rfl ?_)
        | (refine Pick.now rfl ?_)
        | (refine PickW.now (by first | omega | decide) rfl ?_)
          | (refine CallI.of (s_awake g) ?_)
          | (refine CallI.of hc1 ?_)
          | (refine CallI.of hc2 ?_)
          | (refine CallI.of hc3 ?_)
          | (refine CallI.of hsp ?_)
          | (refine CallI.of hnx ?_)
          | (refine CallI.of hpv ?_)
          | (refine CallI.of hof ?_)
          | (refine CallI.of heq ?_)
          | (refine CallI.of o1 ?_)
          | (refine CallI.of o2 ?_)
          | (refine CallI.of o3 ?_)
          | (refine CallI.of hf2 ?_)
          | (refine CallI.of hnb ?_)
          | (refine Cmp.tt (by simp; done) ?_)
          | (refine Need.mk (by simp [win]; done) ?_)
          | (refine Ret.mk rfl))
end

theorem s_CalendarSeasons {E : Oracle} (g : Good E) {xs : List D} (h : fitArgs Tryz.prog [81, 3] xs) : Fc E n_law01_CalendarSeasons (asV xs) (B true) := by
  obtain ⟨x, z, rfl, h1, h3⟩ := args2 h
  obtain ⟨ds, rfl, _, _, rfl, h4, _, _, rfl, h5, rfl⟩ := arg_st Tryz.underlying81 h1
  obtain ⟨yr, rfl, _⟩ := fit_int h4
  obtain ⟨k, rfl, _⟩ := fit_s Tryz.underlying9 h5
  obtain ⟨day, rfl, _⟩ := arg_int h3
  by_cases hc : chkSea yr k = 0
  · obtain ⟨hy, w, rfl⟩ := chkSea_zero.1 hc
    exact w_Seasons_ok g yr w day hy
  · exact w_Seasons_bad g yr k day hc
end Go.Proofs.YtlboecjgelnabaaGreatDoor.Co

