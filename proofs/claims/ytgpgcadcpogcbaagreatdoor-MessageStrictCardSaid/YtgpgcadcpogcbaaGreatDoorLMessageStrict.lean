
/-
  MessageStrict returns true, for all texts.
-/
import Derived.Test.YtgpgcadcpogcbaaGreatDoorFit
import Derived.Test.YtgpgcadcpogcbaaGreatDoorMsPar
import Derived.Test.YtgpgcadcpogcbaaGreatDoorMsPrt
import Derived.Test.YtgpgcadcpogcbaaGreatDoorAwM
namespace Go.Proofs.YtgpgcadcpogcbaaGreatDoor.Co
open Go Go.Evl
set_option maxRecDepth 100000
section
variable {E : Oracle} (g : Good E)
include g
set_option maxHeartbeats 8000000 in
theorem w_MessageStrict (s line minute : List UInt8) : Fc E n_law02_MessageStrict [S s, S line, S minute] (B true) := by
  have aw := s_awake g
  refine g.fn code_law02_MessageStrict rfl ?_
  by_cases h1 : s.length ≤ 1500
  · by_cases h2 : line.length ≤ 300
    · by_cases h3 : minute.length ≤ 40
      · have p1 := s_ParseMessage g s (by omega)
        obtain ⟨j, p2⟩ := s_lineP g line (by omega)
        have p3 := s_ParseMinute g minute
        have r1 : (parseM s).2.2 = 0 → Fc E n_message_PrintMessage [Msv (parseM s).1] (.tup [S s, I 0]) := fun h => by
          obtain ⟨k1, k2⟩ := parse_strict h
          have := s_PrintMessage g (parseM s).1 (by have := k1.ln; omega)
          rw [chkMs_ok.2 k1, if_pos rfl, k2] at this
          exact this
        have r2 : (lineP line).2 = 0 → Fc E n_message_PrintLine [Lnv (lineP line).1] (.tup [S line, I 0]) := fun h => by
          obtain ⟨k1, k2⟩ := lineP_strict (s := line) (l := (lineP line).1) (by rw [← h])
          have := s_PrintLine g (lineP line).1
          rw [k1, if_pos rfl, k2] at this
          exact this
        have r3 : minP minute → Fc E n_message_PrintMinute [I (minV minute)] (.tup [S minute, I 0]) := fun h => by
          obtain ⟨k1, k2⟩ := minL_minV h
          have := s_PrintMinute g (minV minute)
          rw [rng_zero.2 k1, if_pos rfl, k2] at this
          exact this
        generalize parseM s = R at *
        generalize lineP line = Q at *
        obtain ⟨m, i, e1⟩ := R
        obtain ⟨l, e2⟩ := Q
        simp only at p1 p2 r1 r2
        by_cases z3 : minP minute
        · rw [if_pos z3, if_pos z3] at p3
          by_cases z1 : e1 = 0
          all_goals by_cases z2 : e2 = 0
          all_goals repeat' ((conv => whnf); first
          | refine Br.tt ?_
          | refine Br.ff ?_
          | refine Need.w ?_
          | refine Wr.w ?_
          | refine Cmp.t ?_
          | refine Cmp.f ?_
          | refine Rem.w ?_
          | refine Quo.w ?_
          | refine PickV.now rfl ?_
          | refine Pick.now rfl ?_
          | refine Chk.mk rfl ?_
          | refine PickW.w rfl ?_
            | (apply CallI.of; assumption)
            | (refine CallI.of (r1 z1) ?_)
            | (refine CallI.of (r2 z2) ?_)
            | (refine CallI.of (r3 z3) ?_)
            | (refine Cmp.tt (by assumption) ?_)
            | (refine Cmp.ff (by assumption) ?_)
            | (refine Cmp.tt rfl ?_)
            | (refine Ret.mk rfl))
        · rw [if_neg z3, if_neg z3] at p3
          by_cases z1 : e1 = 0
          all_goals by_cases z2 : e2 = 0
          all_goals repeat' ((conv => whnf); first
          | refine Br.tt ?_
          | refine Br.ff ?_
          | refine Need.w ?_
          | refine Wr.w ?_
          | refine Cmp.t ?_
          | refine Cmp.f ?_
          | refine Rem.w ?_
          | refine Quo.w ?_
          | refine PickV.now rfl ?_
          | refine Pick.now rfl ?_
          | refine Chk.mk rfl ?_
          | refine PickW.w rfl ?_
            | (apply CallI.of; assumption)
            | (refine CallI.of (r1 z1) ?_)
            | (refine CallI.of (r2 z2) ?_)
            | (refine Cmp.tt (by assumption) ?_)
            | (refine Cmp.ff (by assumption) ?_)
            | (refine Cmp.tt rfl ?_)
            | (refine Ret.mk rfl))
      · repeat' ((conv => whnf); first
      | refine Br.tt ?_
      | refine Br.ff ?_
      | refine Need.w ?_
      | refine Wr.w ?_
      | refine Cmp.t ?_
      | refine Cmp.f ?_
      | refine Rem.w ?_
      | refine Quo.w ?_
      | refine PickV.now rfl ?_
      | refine Pick.now rfl ?_
      | refine Chk.mk rfl ?_
      | refine PickW.w rfl ?_
          | (apply CallI.of; assumption)
          | (refine Ret.mk rfl))
    · repeat' ((conv => whnf); first
    | refine Br.tt ?_
    | refine Br.ff ?_
    | refine Need.w ?_
    | refine Wr.w ?_
    | refine Cmp.t ?_
    | refine Cmp.f ?_
    | refine Rem.w ?_
    | refine Quo.w ?_
    | refine PickV.now rfl ?_
    | refine Pick.now rfl ?_
    | refine Chk.mk rfl ?_
    | refine PickW.w rfl ?_
        | (apply CallI.of; assumption)
        | (refine Ret.mk rfl))
  · repeat' ((conv => whnf); first
  | refine Br.tt ?_
  | refine Br.ff ?_
  | refine Need.w ?_
  | refine Wr.w ?_
  | refine Cmp.t ?_
  | refine Cmp.f ?_
  | refine Rem.w ?_
  | refine Quo.w ?_
  | refine PickV.now rfl ?_
  | refine Pick.now rfl ?_
  | refine Chk.mk rfl ?_
  | refine PickW.w rfl ?_
      | (apply CallI.of; assumption)
      | (refine Ret.mk rfl))
end
theorem s_MessageStrict {E : Oracle} (g : Good E) {xs : List D} (h : fitArgs Tryz.prog [9, 9, 9] xs) : Fc E n_law02_MessageStrict (asV xs) (B true) := by
  obtain ⟨x, y, z, rfl, h1, h2, h3⟩ := args3 h
  obtain ⟨s, rfl, _⟩ := arg_s Tryz.underlying9 h1
  obtain ⟨t, rfl, _⟩ := arg_s Tryz.underlying9 h2
  obtain ⟨u, rfl, _⟩ := arg_s Tryz.underlying9 h3
  exact w_MessageStrict g s t u
end Go.Proofs.YtgpgcadcpogcbaaGreatDoor.Co
