
/-
  MessageAnswers returns true, for all requests and results.
-/
import Derived.Test.YtmjifdpcoaeehaaGreatDoorMsAnd
import Derived.Test.YtmjifdpcoaeehaaGreatDoorMsOwn
import Derived.Test.YtmjifdpcoaeehaaGreatDoorMsFiy
import Derived.Test.YtmjifdpcoaeehaaGreatDoorAwM
namespace Go.Proofs.YtmjifdpcoaeehaaGreatDoor.Co
open Go Go.Evl
set_option maxRecDepth 100000
theorem arg_Head {x : D} (h : fitArg Tryz.prog 58 x) : ∃ ai se da, x = .agg [.str ai, .str se, DI da] := by
  obtain ⟨ds, rfl, _, _, rfl, h1, _, _, rfl, h2, _, _, rfl, h3, rfl⟩ := arg_st Tryz.underlying58 h
  obtain ⟨ai, rfl⟩ := fit_str h1
  obtain ⟨se, rfl⟩ := fit_str h2
  obtain ⟨da, rfl, _⟩ := fit_int h3
  exact ⟨ai, se, da, rfl⟩
section
variable {E : Oracle} (g : Good E)
include g
set_option maxHeartbeats 16000000 in
theorem w_MessageAnswers (ai se : List UInt8) (da : Int) (l : List Rqt) (rs : List Rst) : Fc E n_law02_MessageAnswers [.d (.agg [.str ai, .str se, DI da]), LQ l, LR rs] (B true) := by
  have aw := s_awake g
  have hs := r_Short g l 6 (by omega)
  have ht := r_ShortResults g rs 6 (by omega)
  by_cases a1 : ai.length ≤ 40
  · by_cases a2 : se.length ≤ 40
    · cases h1 : (decide (l.length ≤ 6 ∨ l.length = 65) && l.all briefB)
      · rw [h1] at hs
        refine g.fn code_law02_MessageAnswers rfl ?_
        repeat' ((conv => whnf); first
        | refine Br.tt ?_
        | refine Br.ff ?_
        | refine Need.w ?_
        | refine Wr.w ?_
        | refine Cmp.t ?_
        | refine Cmp.f ?_
        | refine Rem.w ?_
        | refine Quo.w ?_
        | refine PickV.now rfl ?_
        | refine Pick.now rfl ?_
        | refine Chk.mk rfl ?_
        | refine PickW.w rfl ?_
          | (apply CallI.of; assumption)
          | (refine Ret.mk rfl))
      · rw [h1] at hs
        cases h2 : shortR rs 6
        · rw [h2] at ht
          refine g.fn code_law02_MessageAnswers rfl ?_
          repeat' ((conv => whnf); first
          | refine Br.tt ?_
          | refine Br.ff ?_
          | refine Need.w ?_
          | refine Wr.w ?_
          | refine Cmp.t ?_
          | refine Cmp.f ?_
          | refine Rem.w ?_
          | refine Quo.w ?_
          | refine PickV.now rfl ?_
          | refine Pick.now rfl ?_
          | refine Chk.mk rfl ?_
          | refine PickW.w rfl ?_
            | (apply CallI.of; assumption)
            | (refine Ret.mk rfl))
        · rw [h2] at ht
          simp only [shortR, Bool.and_eq_true, decide_eq_true_eq] at h1 h2
          have hl : l.length ≤ 65 := by omega
          have hr : rs.length ≤ 65 := by omega
          clear h1 h2
          have cl := w_copied g l (by omega)
          have cr := w_results g rs (by omega)
          have k1 := r_CheckHead g ai se da
          have k2 := r_CheckBoth g l rs (by omega)
          have kf := r_First2 g (headE ai se da) (chkBo l rs)
          have p1 := s_Answers g ai se da l rs (by omega) (by omega)
          have p2 := s_Granted g l rs (by omega) (by omega)
          have z1 := w_own g zeroM (by decide)
          have z2 := r_SameMessages g zeroM (by decide)
          have z3 := r_SameRequests g [] (by decide)
          by_cases hz : chkBo l rs = 0
          · have hn := (chkBo_zero hz).ln
            have q1 := r_Answers g ai se da l rs (by omega) hn
            have q2 := r_Granted g l rs (by omega) hn
            have hA : (ansL l rs).length ≤ 1000000 := by rw [ansL_len hn]; omega
            have o1 := w_own g ⟨ANS, ai, se, da, ansL l rs⟩ hA
            have o2 := r_SameMessages g ⟨ANS, ai, se, da, ansL l rs⟩ hA
            have o3 := r_SameRequests g (grL l rs) (by have := grL_len l rs; omega)
            rw [if_pos hz] at p2
            rw [hz] at k2 kf p1
            by_cases he : headE ai se da = 0
            · rw [he] at k1 kf p1
              rw [if_pos (by decide)] at p1
              rw [show firstI [0, 0] = 0 from rfl] at kf
              clear hA hz he
              generalize ansL l rs = X at *
              generalize grL l rs = Y at *
              refine g.fn code_law02_MessageAnswers rfl ?_
              repeat' ((conv => whnf); first
              | refine Br.tt ?_
              | refine Br.ff ?_
              | refine Need.w ?_
              | refine Wr.w ?_
              | refine Cmp.t ?_
              | refine Cmp.f ?_
              | refine Rem.w ?_
              | refine Quo.w ?_
              | refine PickV.now rfl ?_
              | refine Pick.now rfl ?_
              | refine Chk.mk rfl ?_
              | refine PickW.w rfl ?_
                | (apply CallI.of; assumption)
                | (refine Cmp.tt rfl ?_)
                | (refine Ret.mk rfl))
            · have e : firstI [headE ai se da, 0] = headE ai se da := by simp [firstI, he]
              rw [e] at kf p1
              rw [if_neg he] at p1
              clear hA hz e
              generalize headE ai se da = c at *
              generalize grL l rs = Y at *
              refine g.fn code_law02_MessageAnswers rfl ?_
              repeat' ((conv => whnf); first
              | refine Br.tt ?_
              | refine Br.ff ?_
              | refine Need.w ?_
              | refine Wr.w ?_
              | refine Cmp.t ?_
              | refine Cmp.f ?_
              | refine Rem.w ?_
              | refine Quo.w ?_
              | refine PickV.now rfl ?_
              | refine Pick.now rfl ?_
              | refine Chk.mk rfl ?_
              | refine PickW.w rfl ?_
                | (apply CallI.of; assumption)
                | (refine Cmp.ff he ?_)
                | (refine Cmp.tt rfl ?_)
                | (refine Ret.mk rfl))
          · have hf : ¬ firstI [headE ai se da, chkBo l rs] = 0 := fun h => hz ((firstI_zero _).1 h _ (by simp))
            rw [if_neg hf] at p1
            rw [if_neg hz] at p2
            generalize firstI [headE ai se da, chkBo l rs] = c at *
            generalize headE ai se da = d at *
            generalize chkBo l rs = e at *
            refine g.fn code_law02_MessageAnswers rfl ?_
            repeat' ((conv => whnf); first
            | refine Br.tt ?_
            | refine Br.ff ?_
            | refine Need.w ?_
            | refine Wr.w ?_
            | refine Cmp.t ?_
            | refine Cmp.f ?_
            | refine Rem.w ?_
            | refine Quo.w ?_
            | refine PickV.now rfl ?_
            | refine Pick.now rfl ?_
            | refine Chk.mk rfl ?_
            | refine PickW.w rfl ?_
              | (apply CallI.of; assumption)
              | (refine Cmp.ff hf ?_)
              | (refine Cmp.ff hz ?_)
              | (refine Cmp.tt rfl ?_)
              | (refine Ret.mk rfl))
    · refine g.fn code_law02_MessageAnswers rfl ?_
      repeat' ((conv => whnf); first
      | refine Br.tt ?_
      | refine Br.ff ?_
      | refine Need.w ?_
      | refine Wr.w ?_
      | refine Cmp.t ?_
      | refine Cmp.f ?_
      | refine Rem.w ?_
      | refine Quo.w ?_
      | refine PickV.now rfl ?_
      | refine Pick.now rfl ?_
      | refine Chk.mk rfl ?_
      | refine PickW.w rfl ?_
        | (apply CallI.of; assumption)
        | (refine Ret.mk rfl))
  · refine g.fn code_law02_MessageAnswers rfl ?_
    repeat' ((conv => whnf); first
    | refine Br.tt ?_
    | refine Br.ff ?_
    | refine Need.w ?_
    | refine Wr.w ?_
    | refine Cmp.t ?_
    | refine Cmp.f ?_
    | refine Rem.w ?_
    | refine Quo.w ?_
    | refine PickV.now rfl ?_
    | refine Pick.now rfl ?_
    | refine Chk.mk rfl ?_
    | refine PickW.w rfl ?_
      | (apply CallI.of; assumption)
      | (refine Ret.mk rfl))
end
theorem s_MessageAnswers {E : Oracle} (g : Good E) {xs : List D} (h : fitArgs Tryz.prog [58, 38, 59] xs) : Fc E n_law02_MessageAnswers (asV xs) (B true) := by
  obtain ⟨x, y, z, rfl, h1, h2, h3⟩ := args3 h
  obtain ⟨ai, se, da, rfl⟩ := arg_Head h1
  obtain ⟨l, rfl⟩ := arg_Requests h2
  obtain ⟨rs, rfl⟩ := arg_Results h3
  exact w_MessageAnswers g ai se da l rs
end Go.Proofs.YtmjifdpcoaeehaaGreatDoor.Co
