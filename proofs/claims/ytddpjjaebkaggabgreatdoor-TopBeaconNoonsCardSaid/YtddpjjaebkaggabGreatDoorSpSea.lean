
/-
  Seasons: what the program's functions give.
-/
import Derived.Test.YtddpjjaebkaggabGreatDoorSpYear
import Derived.Test.YtddpjjaebkaggabGreatDoorSpSun
namespace Go.Proofs.YtddpjjaebkaggabGreatDoor.Co
open Go Go.Evl
abbrev Sn (y : Int) (k : List UInt8) : V := .d (.agg [DI y, .str k])
def kd : Bool → List UInt8
  | false => [83]
  | true => [87]
def beg (y : Int) : Bool → Int
  | false => sunM y 3
  | true => sunM y 10
def nxY (y : Int) : Bool → Int
  | false => y
  | true => y + 1
theorem march (y : Int) (_ : 2000 ≤ y) : dayN y 3 31 = 89 + (if leapB y then 1 else 0) + daysY (y - 2000).toNat := by
  unfold dayN
  simp [daysM, lenM]
  split <;> omega
theorem october (y : Int) (_ : 2000 ≤ y) : dayN y 10 31 = 303 + (if leapB y then 1 else 0) + daysY (y - 2000).toNat := by
  unfold dayN
  simp [daysM, lenM]
  split <;> omega
theorem marchNext (y : Int) (hy : 2000 ≤ y) : dayN (y + 1) 3 31 = 454 + (if leapB y then 1 else 0) + (if leapB (y + 1) then 1 else 0) + daysY (y - 2000).toNat := by
  rw [march (y + 1) (by omega), show (y + 1 - 2000).toNat = (y - 2000).toNat + 1 by omega]
  simp only [daysY]
  rw [show (2000 : Int) + ((y - 2000).toNat : Nat) = y by omega]
  unfold lenY
  split <;> split <;> omega
theorem beg_next (y : Int) (w : Bool) (hy : 2000 ≤ y ∧ y ≤ 2273) :
    beg y w + 145 ≤ beg (nxY y w) (!w) ∧ beg (nxY y w) (!w) ≤ beg y w + 224 ∧ (beg (nxY y w) (!w) - beg y w) % 7 = 0 ∧ 0 ≤ beg y w ∧ (beg y w + 5) % 7 = 6 ∧ beg y w ≤ 100300 := by
  have h1 := march y hy.1
  have h2 := october y hy.1
  have h3 := marchNext y hy.1
  have h4 := daysY_le (y - 2000).toNat
  cases w <;> simp only [beg, nxY, Bool.not_false, Bool.not_true, sunM, sun]
  all_goals generalize leapB y = a at *
  all_goals generalize leapB (y + 1) = b at *
  all_goals cases a <;> cases b <;> simp at h1 h2 h3 <;> omega
def chkSea (y : Int) (k : List UInt8) : Int := if rng y 2000 2272 ≠ 0 then 3 else if k ≠ [83] ∧ k ≠ [87] then 13 else 0
theorem chkSea_zero {y : Int} {k : List UInt8} : chkSea y k = 0 ↔ (2000 ≤ y ∧ y ≤ 2272) ∧ ∃ w, k = kd w := by
  have h1 := @rng_zero y 2000 2272
  unfold chkSea
  split
  · constructor
    · intro h; omega
    · intro h; omega
  · split
    · rename_i h
      constructor
      · intro h; omega
      · rintro ⟨_, w, rfl⟩
        cases w
        · exact absurd rfl h.1
        · exact absurd rfl h.2
    · rename_i hr h
      refine ⟨fun _ => ⟨by omega, ?_⟩, fun _ => rfl⟩
      by_cases e : k = [83]
      · exact ⟨false, e⟩
      · by_cases e2 : k = [87]
        · exact ⟨true, e2⟩
        · exact absurd ⟨e, e2⟩ h
section
variable {E : Oracle} (g : Good E)
include g
theorem s_CheckSeason (y : Int) (k : List UInt8) : Fc E n_calendar_CheckSeason [Sn y k] (I (chkSea y k)) := by
  refine g.fn code_calendar_CheckSeason rfl ?_
  have r1 : rng y 2000 2272 = 0 ∨ rng y 2000 2272 = 3 := by unfold rng; split <;> simp
  unfold chkSea
  by_cases e : k = [83]
  · subst e
    repeat' ((conv => whnf); first
    | refine Br.tt ?_
    | refine Br.ff ?_
    | refine Need.w ?_
    | refine Wr.w ?_
    | refine Cmp.t ?_
    | refine Cmp.f ?_
    | refine Rem.w ?_
    | refine Quo.w ?_
    | refine PickV.now rfl ?_
    | refine Pick.now rfl ?_
    | refine Chk.mk rfl ?_
    | refine PickW.w rfl ?_
      | (refine CallI.of (s_within g _ _ _) ?_)
      | (refine CallI.of (s_when g _ _) ?_)
      | (refine CallI.of (s_first2 g _ _) ?_)
      | (refine Ret.mk ?_))
    rcases r1 with r1 | r1 <;> simp [firstI, r1]
  · by_cases e2 : k = [87]
    · subst e2
      repeat' ((conv => whnf); first
      | refine Br.tt ?_
      | refine Br.ff ?_
      | refine Need.w ?_
      | refine Wr.w ?_
      | refine Cmp.t ?_
      | refine Cmp.f ?_
      | refine Rem.w ?_
      | refine Quo.w ?_
      | refine PickV.now rfl ?_
      | refine Pick.now rfl ?_
      | refine Chk.mk rfl ?_
      | refine PickW.w rfl ?_
        | (refine CallI.of (s_within g _ _ _) ?_)
        | (refine CallI.of (s_when g _ _) ?_)
        | (refine CallI.of (s_first2 g _ _) ?_)
        | (refine Ret.mk ?_))
      rcases r1 with r1 | r1 <;> simp [firstI, r1]
    · repeat' ((conv => whnf); first
    | refine Br.tt ?_
    | refine Br.ff ?_
    | refine Need.w ?_
    | refine Wr.w ?_
    | refine Cmp.t ?_
    | refine Cmp.f ?_
    | refine Rem.w ?_
    | refine Quo.w ?_
    | refine PickV.now rfl ?_
    | refine Pick.now rfl ?_
    | refine Chk.mk rfl ?_
    | refine PickW.w rfl ?_
        | (refine Cmp.ff e ?_)
        | (refine Cmp.ff e2 ?_)
        | (refine CallI.of (s_within g _ _ _) ?_)
        | (refine CallI.of (s_when g _ _) ?_)
        | (refine CallI.of (s_first2 g _ _) ?_)
        | (refine Ret.mk ?_))
      rcases r1 with r1 | r1 <;> simp [firstI, r1, e, e2]
theorem s_begin (y : Int) (w : Bool) (hy : 2000 ≤ y ∧ y ≤ 2273) : Fc E n_calendar_Season_begin [Sn y (kd w)] (I (beg y w)) := by
  refine g.fn code_calendar_Season_begin rfl ?_
  cases w
  all_goals repeat' ((conv => whnf); first
  | refine Br.tt ?_
  | refine Br.ff ?_
  | refine Need.w ?_
  | refine Wr.w ?_
  | refine Cmp.t ?_
  | refine Cmp.f ?_
  | refine Rem.w ?_
  | refine Quo.w ?_
  | refine PickV.now rfl ?_
  | refine Pick.now rfl ?_
  | refine Chk.mk rfl ?_
  | refine PickW.w rfl ?_
    | (refine CallI.of (s_lastSunday g _ _ (by omega) (by omega)) ?_)
    | (refine Ret.mk rfl))
theorem s_next (y : Int) (w : Bool) (hy : 2000 ≤ y ∧ y ≤ 2273) : Fc E n_calendar_Season_next [Sn y (kd w)] (Sn (nxY y w) (kd (!w))) := by
  refine g.fn code_calendar_Season_next rfl ?_
  cases w
  all_goals repeat' ((conv => whnf); first
  | refine Br.tt ?_
  | refine Br.ff ?_
  | refine Need.w ?_
  | refine Wr.w ?_
  | refine Cmp.t ?_
  | refine Cmp.f ?_
  | refine Rem.w ?_
  | refine Quo.w ?_
  | refine PickV.now rfl ?_
  | refine Pick.now rfl ?_
  | refine Chk.mk rfl ?_
  | refine PickW.w rfl ?_
    | (refine Ret.mk rfl))
theorem s_Span_ok (y : Int) (w : Bool) (hy : 2000 ≤ y ∧ y ≤ 2272) : Fc E n_calendar_Span [Sn y (kd w)] (.tup [Per (beg y w) (beg (nxY y w) (!w) - 1) 127, I 0]) := by
  refine g.fn code_calendar_Span rfl ?_
  have hc : chkSea y (kd w) = 0 := chkSea_zero.2 ⟨hy, w, rfl⟩
  have hs := s_CheckSeason g y (kd w)
  rw [hc] at hs
  have hb := s_begin g y w (by omega)
  have hn := s_next g y w (by omega)
  have hy2 : 2000 ≤ nxY y w ∧ nxY y w ≤ 2273 := by cases w <;> simp only [nxY] <;> omega
  have hb2 := s_begin g (nxY y w) (!w) hy2
  have hl := beg_next y w (by omega)
  generalize beg (nxY y w) (!w) = n2 at *
  generalize beg y w = n1 at *
  repeat' ((conv => whnf); first
  | refine Br.tt ?_
  | refine Br.ff ?_
  | refine Need.w ?_
  | refine Wr.w ?_
  | refine Cmp.t ?_
  | refine Cmp.f ?_
  | refine Rem.w ?_
  | refine Quo.w ?_
  | refine PickV.now rfl ?_
  | refine Pick.now rfl ?_
  | refine Chk.mk rfl ?_
  | refine PickW.w rfl ?_
    | (refine CallI.of hs ?_)
    | (refine CallI.of hb ?_)
    | (refine CallI.of hn ?_)
    | (refine CallI.of hb2 ?_)
    | (refine Need.mk (by simp [win]; done) ?_)
    | (refine Ret.mk rfl))
theorem s_Span_bad (y : Int) (k : List UInt8) (h : chkSea y k ≠ 0) : Fc E n_calendar_Span [Sn y k] (.tup [Per 0 0 0, I (chkSea y k)]) := by
  refine g.fn code_calendar_Span rfl ?_
  repeat' ((conv => whnf); first
  | refine Br.tt ?_
  | refine Br.ff ?_
  | refine Need.w ?_
  | refine Wr.w ?_
  | refine Cmp.t ?_
  | refine Cmp.f ?_
  | refine Rem.w ?_
  | refine Quo.w ?_
  | refine PickV.now rfl ?_
  | refine Pick.now rfl ?_
  | refine Chk.mk rfl ?_
  | refine PickW.w rfl ?_
    | (refine CallI.of (s_CheckSeason g _ _) ?_)
    | (refine Need.mk (by simp [win]; done) ?_)
    | (refine Ret.mk rfl))
end
end Go.Proofs.YtddpjjaebkaggabGreatDoor.Co
