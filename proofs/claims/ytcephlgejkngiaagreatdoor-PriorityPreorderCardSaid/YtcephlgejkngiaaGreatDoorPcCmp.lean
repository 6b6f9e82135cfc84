
/-
  Priority: Compare, by the program.
-/
import Derived.Test.YtcephlgejkngiaaGreatDoorPcDec
namespace Go.Proofs.YtcephlgejkngiaaGreatDoor.Co
open Go Go.Evl
set_option maxRecDepth 100000
theorem OkPrg.okKy {p : Prg} (h : OkPrg p) : OkKy p := fun c hc k hk => (h.cs c hc).ks k hk
section
variable {E : Oracle} (g : Good E)
include g
set_option maxHeartbeats 8000000 in
theorem s_Compare (p : Prg) (a b : Clm) (h : chkPg p = 0) (ha : chkCl a = 0) (hb : chkCl b = 0) : Fc E n_priority_Compare [Pgv p, Clv a, Clv b] (.tup [I (dcP p a b).1, I 0]) := by
  have ok := chkPg_zero h
  have h1 := s_CheckProgram g p ok.small
  have h2 := s_CheckClaim g a
  have h3 := s_CheckClaim g b
  have h4 := s_decide g p a b ok.small ha hb ok.okWh ok.okKy
  rw [h] at h1
  rw [ha] at h2
  rw [hb] at h3
  refine g.fn code_priority_Compare rfl ?_
  repeat' ((conv => whnf); first
  | refine Br.tt ?_ | refine Br.ff ?_ | refine Need.w ?_ | refine Wr.w ?_ | refine Cmp.t ?_ | refine Cmp.f ?_ | refine Rem.w ?_ | refine Quo.w ?_ | refine PickV.now rfl ?_ | refine Pick.now rfl ?_ | refine Chk.mk rfl ?_ | refine PickW.w rfl ?_
    | (apply CallI.of; assumption)
    | (refine CallI.of (s_pfirst3 g _ _ _) ?_)
    | (refine Ret.mk rfl))
set_option maxHeartbeats 8000000 in
theorem s_Compare_bad (p : Prg) (a b : Clm) (hs : SmallP p) (h : firstI [chkPg p, chkCl a, chkCl b] ≠ 0) : Fc E n_priority_Compare [Pgv p, Clv a, Clv b] (.tup [I 0, I (firstI [chkPg p, chkCl a, chkCl b])]) := by
  have h1 := s_CheckProgram g p hs
  have h2 := s_CheckClaim g a
  have h3 := s_CheckClaim g b
  have h4 := s_pfirst3 g (chkPg p) (chkCl a) (chkCl b)
  refine g.fn code_priority_Compare rfl ?_
  generalize firstI [chkPg p, chkCl a, chkCl b] = r at *
  repeat' ((conv => whnf); first
  | refine Br.tt ?_ | refine Br.ff ?_ | refine Need.w ?_ | refine Wr.w ?_ | refine Cmp.t ?_ | refine Cmp.f ?_ | refine Rem.w ?_ | refine Quo.w ?_ | refine PickV.now rfl ?_ | refine Pick.now rfl ?_ | refine Chk.mk rfl ?_ | refine PickW.w rfl ?_
    | (apply CallI.of; assumption)
    | (refine Cmp.tt h ?_)
    | (refine Ret.mk rfl))
end
end Go.Proofs.YtcephlgejkngiaaGreatDoor.Co
