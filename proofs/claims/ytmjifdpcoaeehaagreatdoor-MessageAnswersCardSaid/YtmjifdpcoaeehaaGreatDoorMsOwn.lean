
/-
  Messages: the program's as the reference's, and held against each other.
-/
import Derived.Test.YtmjifdpcoaeehaaGreatDoorMsCha
namespace Go.Proofs.YtmjifdpcoaeehaaGreatDoor.Co
open Go Go.Evl
section
variable {E : Oracle} (g : Good E)
include g
set_option maxRecDepth 100000
set_option maxHeartbeats 4000000 in
theorem w_ownLines (ls : List Lnt) (hl : ls.length ≤ 1000000) : Fc E n_law02_ownLines [LL ls] (LL ls) := by
  refine g.fn code_law02_ownLines rfl ?_
  repeat' ((conv => whnf); first
  | refine Br.tt ?_
  | refine Br.ff ?_
  | refine Need.w ?_
  | refine Wr.w ?_
  | refine Cmp.t ?_
  | refine Cmp.f ?_
  | refine Rem.w ?_
  | refine Quo.w ?_
  | refine PickV.now rfl ?_
  | refine Pick.now rfl ?_
  | refine Chk.mk rfl ?_
  | refine PickW.w rfl ?_)
  refine LoopW.to (LoopW.up g (fun k => [(3, .ref ⟨0, 3, 0⟩ 0 k k), (6, LL ls), (7, I ls.length), (8, I k)]) (fun k => [(⟨0, 2, 0⟩, .row false ty_turnroundref02_Line 14 0 []), (⟨0, 3, 0⟩, .row false ty_turnroundref02_Line 14 k ((ls.take k).flatMap Lnt.cells))]) ls.length (fun k hk ih => ?_) 0 (Nat.zero_le _)) rfl rfl
  by_cases hlt : k < ls.length
  · have hf := flatR_take Lnt.cells ls k hlt
    have ih := ih hlt
    rw [hf] at ih
    repeat' ((conv => whnf); first
    | refine Br.tt ?_
    | refine Br.ff ?_
    | refine Need.w ?_
    | refine Wr.w ?_
    | refine Cmp.t ?_
    | refine Cmp.f ?_
    | refine Rem.w ?_
    | refine Quo.w ?_
    | refine PickV.now rfl ?_
    | refine Pick.now rfl ?_
    | refine Chk.mk rfl ?_
    | refine PickW.w rfl ?_
      | (refine PickW.rec Lnt.cells_length k rfl hlt ?_)
      | (refine Need.mk (by simp; omega) ?_)
      | (refine LoopW.to ih rfl rfl))
  · obtain rfl : k = ls.length := by omega
    rw [List.take_length]
    repeat' ((conv => whnf); first
    | refine Br.tt ?_
    | refine Br.ff ?_
    | refine Need.w ?_
    | refine Wr.w ?_
    | refine Cmp.t ?_
    | refine Cmp.f ?_
    | refine Rem.w ?_
    | refine Quo.w ?_
    | refine PickV.now rfl ?_
    | refine Pick.now rfl ?_
    | refine Chk.mk rfl ?_
    | refine PickW.w rfl ?_
      | (refine Ret.mk ?_))
    rw [if_pos ⟨rfl, rfl⟩]
theorem w_own (m : Mst) (hl : m.ls.length ≤ 1000000) : Fc E n_law02_own [Msv m] (Msv m) := by
  refine g.fn code_law02_own rfl ?_
  have h := w_ownLines g m.ls hl
  repeat' ((conv => whnf); first
  | refine Br.tt ?_
  | refine Br.ff ?_
  | refine Need.w ?_
  | refine Wr.w ?_
  | refine Cmp.t ?_
  | refine Cmp.f ?_
  | refine Rem.w ?_
  | refine Quo.w ?_
  | refine PickV.now rfl ?_
  | refine Pick.now rfl ?_
  | refine Chk.mk rfl ?_
  | refine PickW.w rfl ?_
    | (refine CallI.of h ?_)
    | (refine Ret.mk rfl))
theorem r_SameLines (ls : List Lnt) (hl : ls.length ≤ 1000000) : Fc E n_ref02_SameLines [LL ls, LL ls] (B true) := by
  refine g.fn code_ref02_SameLines rfl ?_
  repeat' ((conv => whnf); first
  | refine Br.tt ?_
  | refine Br.ff ?_
  | refine Need.w ?_
  | refine Wr.w ?_
  | refine Cmp.t ?_
  | refine Cmp.f ?_
  | refine Rem.w ?_
  | refine Quo.w ?_
  | refine PickV.now rfl ?_
  | refine Pick.now rfl ?_
  | refine Chk.mk rfl ?_
  | refine PickW.w rfl ?_
    | (refine Cmp.tt rfl ?_))
  refine LoopW.to (LoopW.up g (fun k => [(0, LL ls), (1, LL ls), (5, I k)]) (fun _ => []) ls.length (fun k hk ih => ?_) 0 (Nat.zero_le _)) rfl rfl
  by_cases hlt : k < ls.length
  · have ih := ih hlt
    repeat' ((conv => whnf); first
    | refine Br.tt ?_
    | refine Br.ff ?_
    | refine Need.w ?_
    | refine Wr.w ?_
    | refine Cmp.t ?_
    | refine Cmp.f ?_
    | refine Rem.w ?_
    | refine Quo.w ?_
    | refine PickV.now rfl ?_
    | refine Pick.now rfl ?_
    | refine Chk.mk rfl ?_
    | refine PickW.w rfl ?_
      | (refine PickW.rec Lnt.cells_length k rfl hlt ?_)
      | (refine Cmp.tt ⟨rfl, rfl, rfl, rfl, rfl, rfl, rfl, rfl, rfl, rfl, rfl, rfl, rfl, rfl⟩ ?_)
      | (refine LoopW.to ih rfl rfl))
  · repeat' ((conv => whnf); first
  | refine Br.tt ?_
  | refine Br.ff ?_
  | refine Need.w ?_
  | refine Wr.w ?_
  | refine Cmp.t ?_
  | refine Cmp.f ?_
  | refine Rem.w ?_
  | refine Quo.w ?_
  | refine PickV.now rfl ?_
  | refine Pick.now rfl ?_
  | refine Chk.mk rfl ?_
  | refine PickW.w rfl ?_
      | (refine Ret.mk rfl))
theorem r_SameMessages (m : Mst) (hl : m.ls.length ≤ 1000000) : Fc E n_ref02_SameMessages [Msv m, Msv m] (B true) := by
  refine g.fn code_ref02_SameMessages rfl ?_
  have h := r_SameLines g m.ls hl
  repeat' ((conv => whnf); first
  | refine Br.tt ?_
  | refine Br.ff ?_
  | refine Need.w ?_
  | refine Wr.w ?_
  | refine Cmp.t ?_
  | refine Cmp.f ?_
  | refine Rem.w ?_
  | refine Quo.w ?_
  | refine PickV.now rfl ?_
  | refine Pick.now rfl ?_
  | refine Chk.mk rfl ?_
  | refine PickW.w rfl ?_
    | (refine CallI.of h ?_)
    | (refine Cmp.tt rfl ?_)
    | (refine Ret.mk rfl))
end
end Go.Proofs.YtmjifdpcoaeehaaGreatDoor.Co
