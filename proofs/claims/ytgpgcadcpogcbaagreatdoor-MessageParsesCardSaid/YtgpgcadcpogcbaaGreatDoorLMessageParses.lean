
/-
  MessageParses returns true, for every text.
-/
import Derived.Test.YtgpgcadcpogcbaaGreatDoorMsOwn
import Derived.Test.YtgpgcadcpogcbaaGreatDoorMsPaq
import Derived.Test.YtgpgcadcpogcbaaGreatDoorAwM
namespace Go.Proofs.YtgpgcadcpogcbaaGreatDoor.Co
open Go Go.Evl
set_option maxRecDepth 100000
theorem parseM_ln (s : List UInt8) : (parseM s).1.ls.length ≤ 64 := by
  by_cases h : (parseM s).2.2 = 0
  · exact (parse_strict h).1.ln
  · rw [parseM_zero s h]
    decide
section
variable {E : Oracle} (g : Good E)
include g
theorem r_SameLines_nil : Fc E n_ref02_SameLines [LL [], .d .nil] (B true) := by
  refine g.fn code_ref02_SameLines rfl ?_
  repeat' ((conv => whnf); first
  | refine Br.tt ?_
  | refine Br.ff ?_
  | refine Need.w ?_
  | refine Wr.w ?_
  | refine Cmp.t ?_
  | refine Cmp.f ?_
  | refine Rem.w ?_
  | refine Quo.w ?_
  | refine PickV.now rfl ?_
  | refine Pick.now rfl ?_
  | refine Chk.mk rfl ?_
  | refine PickW.w rfl ?_
    | (refine LoopW.step g.lim ?_)
    | (refine Ret.mk rfl))
theorem r_SameMessages_rv (R : Mst × Nat × Int) (hl : R.1.ls.length ≤ 1000000) : Fc E n_ref02_SameMessages [Msv R.1, Mrv R] (B true) := by
  unfold Mrv
  split
  · rename_i h
    obtain ⟨⟨ki, ai, se, da, ls⟩, i, e⟩ := R
    obtain ⟨_, h⟩ := h
    simp only at h
    subst h
    refine g.fn code_ref02_SameMessages rfl ?_
    have h := r_SameLines_nil g
    repeat' ((conv => whnf); first
    | refine Br.tt ?_
    | refine Br.ff ?_
    | refine Need.w ?_
    | refine Wr.w ?_
    | refine Cmp.t ?_
    | refine Cmp.f ?_
    | refine Rem.w ?_
    | refine Quo.w ?_
    | refine PickV.now rfl ?_
    | refine Pick.now rfl ?_
    | refine Chk.mk rfl ?_
    | refine PickW.w rfl ?_
      | (refine CallI.of h ?_)
      | (refine Cmp.tt rfl ?_)
      | (refine Ret.mk rfl))
  · exact r_SameMessages g R.1 hl
set_option maxHeartbeats 8000000 in
theorem w_MessageParses (s : List UInt8) : Fc E n_law02_MessageParses [S s] (B true) := by
  have aw := s_awake g
  by_cases hl : 1500 < s.length ∧ s.length ≤ 16384 ∨ 16393 < s.length
  · refine g.fn code_law02_MessageParses rfl ?_
    by_cases h1 : 1500 < s.length
    all_goals by_cases h2 : s.length ≤ 16384
    all_goals repeat' ((conv => whnf); first
    | refine Br.tt ?_
    | refine Br.ff ?_
    | refine Need.w ?_
    | refine Wr.w ?_
    | refine Cmp.t ?_
    | refine Cmp.f ?_
    | refine Rem.w ?_
    | refine Quo.w ?_
    | refine PickV.now rfl ?_
    | refine Pick.now rfl ?_
    | refine Chk.mk rfl ?_
    | refine PickW.w rfl ?_
      | (apply CallI.of; assumption)
      | (refine Ret.mk rfl)
      | (exfalso; omega))
  · have p1 := s_ParseMessage g s (by omega)
    have p2 := r_ParseMessage g s (by omega)
    have hn := parseM_ln s
    generalize parseM s = R at *
    have o1 := w_own g R.1 (by omega)
    have o2 := r_SameMessages_rv g R (by omega)
    have hM : ∃ x : List D, Mrv R = .d (.agg x) ∧ x.length = 5 := by
      unfold Mrv
      split
      · exact ⟨_, rfl, rfl⟩
      · exact ⟨_, rfl, rfl⟩
    obtain ⟨x, hx, hx5⟩ := hM
    rw [hx] at p2 o2
    match x, hx5 with
    | [x0, x1, x2, x3, x4], _ =>
      refine g.fn code_law02_MessageParses rfl ?_
      by_cases h1 : 1500 < s.length
      all_goals by_cases h2 : s.length ≤ 16384
      all_goals repeat' ((conv => whnf); first
      | refine Br.tt ?_
      | refine Br.ff ?_
      | refine Need.w ?_
      | refine Wr.w ?_
      | refine Cmp.t ?_
      | refine Cmp.f ?_
      | refine Rem.w ?_
      | refine Quo.w ?_
      | refine PickV.now rfl ?_
      | refine Pick.now rfl ?_
      | refine Chk.mk rfl ?_
      | refine PickW.w rfl ?_
        | (apply CallI.of; assumption)
        | (refine Cmp.tt rfl ?_)
        | (refine Ret.mk rfl)
        | (exfalso; omega))
end
theorem s_MessageParses {E : Oracle} (g : Good E) {xs : List D} (h : fitArgs Tryz.prog [9] xs) : Fc E n_law02_MessageParses (asV xs) (B true) := by
  obtain ⟨x, rfl, h1⟩ := args1 h
  obtain ⟨s, rfl, _⟩ := arg_s Tryz.underlying9 h1
  exact w_MessageParses g s
end Go.Proofs.YtgpgcadcpogcbaaGreatDoor.Co
