
/-
  Messages: requests and lines as a law's parameters; short ones.
-/
import Derived.Test.YtcephlgejkngiaaGreatDoorFit
import Derived.Test.YtcephlgejkngiaaGreatDoorMsReq
namespace Go.Proofs.YtcephlgejkngiaaGreatDoor.Co
open Go Go.Evl
set_option maxRecDepth 100000
theorem fit_str {k : Nat} {ds : List D} (h : fit Tryz.prog (k + 1) 9 ds) : ∃ s, ds = [.str s] := by
  obtain ⟨s, rfl, _⟩ := fit_s Tryz.underlying9 h
  exact ⟨s, rfl⟩
theorem fit_Period {k : Nat} {ds : List D} (h : fit Tryz.prog (k + 2) 26 ds) : ∃ f t d, ds = [DI f, DI t, DI d] := by
  obtain ⟨_, _, rfl, h1, _, _, rfl, h2, _, _, rfl, h3, rfl⟩ := fit_st Tryz.underlying26 h
  obtain ⟨f, rfl, _⟩ := fit_int h1
  obtain ⟨t, rfl, _⟩ := fit_int h2
  obtain ⟨d, rfl, _⟩ := fit_int h3
  exact ⟨f, t, d, rfl⟩
theorem fit_Request {k : Nat} {ds : List D} (h : fit Tryz.prog (k + 3) 28 ds) : ∃ q : Rqt, ds = q.cells := by
  obtain ⟨_, _, rfl, h1, _, _, rfl, h2, _, _, rfl, h3, _, _, rfl, h4, _, _, rfl, h5, _, _, rfl, h6, _, _, rfl, h7, _, _, rfl, h8, _, _, rfl, h9, _, _, rfl, h10, _, _, rfl, h11, rfl⟩ := fit_st Tryz.underlying28 h
  obtain ⟨s1, rfl⟩ := fit_str h1
  obtain ⟨s2, rfl⟩ := fit_str h2
  obtain ⟨s3, rfl⟩ := fit_str h3
  obtain ⟨s4, rfl⟩ := fit_str h4
  obtain ⟨s5, rfl⟩ := fit_str h5
  obtain ⟨s6, rfl⟩ := fit_str h6
  obtain ⟨f, t, d, rfl⟩ := fit_Period h7
  obtain ⟨a, rfl, _⟩ := fit_int h8
  obtain ⟨b, rfl, _⟩ := fit_int h9
  obtain ⟨c, rfl, _⟩ := fit_int h10
  obtain ⟨e, rfl, _⟩ := fit_int h11
  exact ⟨⟨s1, s2, s3, s4, s5, s6, f, t, d, a, b, c, e⟩, rfl⟩
def briefB (q : Rqt) : Bool := decide (q.nm.length ≤ 40 ∧ q.ca.length ≤ 40 ∧ q.ki.length ≤ 40 ∧ q.te.length ≤ 40 ∧ q.pa.length ≤ 40 ∧ q.li.length ≤ 40)
section
variable {E : Oracle} (g : Good E)
include g
set_option maxHeartbeats 4000000 in
theorem r_Brief (q : Rqt) : Fc E n_ref02_Brief [Rqv q] (B (briefB q)) := by
  refine g.fn code_ref02_Brief rfl ?_
  unfold briefB
  by_cases h1 : q.nm.length ≤ 40
  · by_cases h2 : q.ca.length ≤ 40
    · by_cases h3 : q.ki.length ≤ 40
      · by_cases h4 : q.te.length ≤ 40
        · by_cases h5 : q.pa.length ≤ 40
          · by_cases h6 : q.li.length ≤ 40
            · rw [decide_eq_true ⟨h1, h2, h3, h4, h5, h6⟩]
              repeat' ((conv => whnf); first
              | refine Br.tt ?_ | refine Br.ff ?_ | refine Need.w ?_ | refine Wr.w ?_ | refine Cmp.t ?_ | refine Cmp.f ?_ | refine Rem.w ?_ | refine Quo.w ?_ | refine PickV.now rfl ?_ | refine Pick.now rfl ?_ | refine Chk.mk rfl ?_ | refine PickW.w rfl ?_
                | (refine Ret.mk rfl))
            · rw [decide_eq_false (fun h => h6 (by omega))]
              repeat' ((conv => whnf); first
              | refine Br.tt ?_ | refine Br.ff ?_ | refine Need.w ?_ | refine Wr.w ?_ | refine Cmp.t ?_ | refine Cmp.f ?_ | refine Rem.w ?_ | refine Quo.w ?_ | refine PickV.now rfl ?_ | refine Pick.now rfl ?_ | refine Chk.mk rfl ?_ | refine PickW.w rfl ?_
                | (refine Ret.mk rfl))
          · rw [decide_eq_false (fun h => h5 (by omega))]
            repeat' ((conv => whnf); first
            | refine Br.tt ?_ | refine Br.ff ?_ | refine Need.w ?_ | refine Wr.w ?_ | refine Cmp.t ?_ | refine Cmp.f ?_ | refine Rem.w ?_ | refine Quo.w ?_ | refine PickV.now rfl ?_ | refine Pick.now rfl ?_ | refine Chk.mk rfl ?_ | refine PickW.w rfl ?_
              | (refine Ret.mk rfl))
        · rw [decide_eq_false (fun h => h4 (by omega))]
          repeat' ((conv => whnf); first
          | refine Br.tt ?_ | refine Br.ff ?_ | refine Need.w ?_ | refine Wr.w ?_ | refine Cmp.t ?_ | refine Cmp.f ?_ | refine Rem.w ?_ | refine Quo.w ?_ | refine PickV.now rfl ?_ | refine Pick.now rfl ?_ | refine Chk.mk rfl ?_ | refine PickW.w rfl ?_
            | (refine Ret.mk rfl))
      · rw [decide_eq_false (fun h => h3 (by omega))]
        repeat' ((conv => whnf); first
        | refine Br.tt ?_ | refine Br.ff ?_ | refine Need.w ?_ | refine Wr.w ?_ | refine Cmp.t ?_ | refine Cmp.f ?_ | refine Rem.w ?_ | refine Quo.w ?_ | refine PickV.now rfl ?_ | refine Pick.now rfl ?_ | refine Chk.mk rfl ?_ | refine PickW.w rfl ?_
          | (refine Ret.mk rfl))
    · rw [decide_eq_false (fun h => h2 (by omega))]
      repeat' ((conv => whnf); first
      | refine Br.tt ?_ | refine Br.ff ?_ | refine Need.w ?_ | refine Wr.w ?_ | refine Cmp.t ?_ | refine Cmp.f ?_ | refine Rem.w ?_ | refine Quo.w ?_ | refine PickV.now rfl ?_ | refine Pick.now rfl ?_ | refine Chk.mk rfl ?_ | refine PickW.w rfl ?_
        | (refine Ret.mk rfl))
  · rw [decide_eq_false (fun h => h1 (by omega))]
    repeat' ((conv => whnf); first
    | refine Br.tt ?_ | refine Br.ff ?_ | refine Need.w ?_ | refine Wr.w ?_ | refine Cmp.t ?_ | refine Cmp.f ?_ | refine Rem.w ?_ | refine Quo.w ?_ | refine PickV.now rfl ?_ | refine Pick.now rfl ?_ | refine Chk.mk rfl ?_ | refine PickW.w rfl ?_
      | (refine Ret.mk rfl))
end
end Go.Proofs.YtcephlgejkngiaaGreatDoor.Co
