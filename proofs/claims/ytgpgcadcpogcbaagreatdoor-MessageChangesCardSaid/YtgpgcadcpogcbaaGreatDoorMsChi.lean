
/-
  Messages: Changed, by the reference; a law's copies.
-/
import Derived.Test.YtgpgcadcpogcbaaGreatDoorMsChg
namespace Go.Proofs.YtgpgcadcpogcbaaGreatDoor.Co
open Go Go.Evl
set_option maxRecDepth 100000
section
variable {E : Oracle} (g : Good E)
include g
set_option maxHeartbeats 16000000 in
theorem r_Changed (b a : List Rqt) (hb : b.length ≤ 1000000) (ha : a.length ≤ 1000000) (ub : (nmsQ b).Nodup) (ua : (nmsQ a).Nodup) : Fc E n_ref02_Changed [LQ b, LQ a] (LL (chgL b a)) := by
  generalize hR : LL (chgL b a) = R
  refine g.fn code_ref02_Changed rfl ?_
  repeat' ((conv => whnf); first
  | refine Br.tt ?_
  | refine Br.ff ?_
  | refine Need.w ?_
  | refine Wr.w ?_
  | refine Cmp.t ?_
  | refine Cmp.f ?_
  | refine Rem.w ?_
  | refine Quo.w ?_
  | refine PickV.now rfl ?_
  | refine Pick.now rfl ?_
  | refine Chk.mk rfl ?_
  | refine PickW.w rfl ?_)
  refine LoopW.to (LoopW.up g (fun k => [(0, LQ b), (1, LQ a), (5, .ref ⟨0, 5, 0⟩ 0 ((b.take k).flatMap (dL a)).length ((b.take k).flatMap (dL a)).length), (6, I k)]) (fun k => [(⟨0, 4, 0⟩, .row false ty_turnroundref02_Line 14 0 []), (⟨0, 5, 0⟩, .row false ty_turnroundref02_Line 14 ((b.take k).flatMap (dL a)).length (((b.take k).flatMap (dL a)).flatMap Lnt.cells))]) b.length (fun k hk ih => ?_) 0 (Nat.zero_le _)) rfl rfl
  by_cases hlt : k < b.length
  · obtain ⟨i, hq, hi⟩ := r_twin g a b[k] ha ua
    have ih := ih hlt
    rw [fm_take (dL a) b k hlt] at ih
    have hX : ((b.take k).flatMap (dL a)).length ≤ 5000000 := by
      have := take_len (dL_len a) b k
      omega
    generalize (b.take k).flatMap (dL a) = X at *
    have hfl := flatR_length Lnt.cells 14 Lnt.cells_length X
    rcases hi with ⟨hi, hF⟩ | ⟨j, hj, hi, hF⟩
    · rw [show dL a b[k] = [⟨[68], b[k]⟩] by unfold dL; rw [hF], List.flatMap_append, List.length_append] at ih
      repeat' ((conv => whnf); first
      | refine Br.tt ?_
      | refine Br.ff ?_
      | refine Need.w ?_
      | refine Wr.w ?_
      | refine Cmp.t ?_
      | refine Cmp.f ?_
      | refine Rem.w ?_
      | refine Quo.w ?_
      | refine PickV.now rfl ?_
      | refine Pick.now rfl ?_
      | refine Chk.mk rfl ?_
      | refine PickW.w rfl ?_
        | (refine PickW.rec Rqt.cells_length k rfl hlt ?_)
        | (refine CallI.of hq ?_)
        | (refine Need.mk (by simp only [List.length_cons, List.length_nil]; omega) ?_)
        | (refine LoopW.to ih rfl rfl))
    · rw [show dL a b[k] = [] by unfold dL; rw [hF], List.append_nil] at ih
      repeat' ((conv => whnf); first
      | refine Br.tt ?_
      | refine Br.ff ?_
      | refine Need.w ?_
      | refine Wr.w ?_
      | refine Cmp.t ?_
      | refine Cmp.f ?_
      | refine Rem.w ?_
      | refine Quo.w ?_
      | refine PickV.now rfl ?_
      | refine Pick.now rfl ?_
      | refine Chk.mk rfl ?_
      | refine PickW.w rfl ?_
        | (refine PickW.rec Rqt.cells_length k rfl hlt ?_)
        | (refine CallI.of hq ?_)
        | (refine LoopW.to ih rfl rfl))
  · obtain rfl : k = b.length := by omega
    clear ih
    rw [List.take_length]
    have hD := one_len 1 (dL_len a) b
    unfold chgL at hR
    generalize b.flatMap (dL a) = Dx at *
    repeat' ((conv => whnf); first
    | refine Br.tt ?_
    | refine Br.ff ?_
    | refine Need.w ?_
    | refine Wr.w ?_
    | refine Cmp.t ?_
    | refine Cmp.f ?_
    | refine Rem.w ?_
    | refine Quo.w ?_
    | refine PickV.now rfl ?_
    | refine Pick.now rfl ?_
    | refine Chk.mk rfl ?_
    | refine PickW.w rfl ?_)
    refine LoopW.to (LoopW.up g (fun k => [(0, LQ b), (1, LQ a), (5, .ref ⟨0, 5, 0⟩ 0 (catR Dx ((b.take k).flatMap (cL a))).length (catR Dx ((b.take k).flatMap (cL a))).length), (7, I k)]) (fun k => [(⟨0, 4, 0⟩, .row false ty_turnroundref02_Line 14 0 []), (⟨0, 5, 0⟩, .row false ty_turnroundref02_Line 14 (catR Dx ((b.take k).flatMap (cL a))).length ((catR Dx ((b.take k).flatMap (cL a))).flatMap Lnt.cells))]) b.length (fun k hk ih => ?_) 0 (Nat.zero_le _)) rfl rfl
    by_cases hlt : k < b.length
    · obtain ⟨i, hq, hi⟩ := r_twin g a b[k] ha ua
      have ih := ih hlt
      rw [catR_succ Dx (cL a) hlt] at ih
      have hX : (catR Dx ((b.take k).flatMap (cL a))).length ≤ 5000000 := by
        have := take_len (cL_len a) b k
        rw [catR_eq, List.length_append]
        omega
      generalize catR Dx ((b.take k).flatMap (cL a)) = X at *
      have hfl := flatR_length Lnt.cells 14 Lnt.cells_length X
      rcases hi with ⟨hi, hF⟩ | ⟨j, hj, hi, hF⟩
      · rw [show cL a b[k] = [] by unfold cL; rw [hF], List.append_nil] at ih
        repeat' ((conv => whnf); first
        | refine Br.tt ?_
        | refine Br.ff ?_
        | refine Need.w ?_
        | refine Wr.w ?_
        | refine Cmp.t ?_
        | refine Cmp.f ?_
        | refine Rem.w ?_
        | refine Quo.w ?_
        | refine PickV.now rfl ?_
        | refine Pick.now rfl ?_
        | refine Chk.mk rfl ?_
        | refine PickW.w rfl ?_
          | (refine PickW.rec Rqt.cells_length k rfl hlt ?_)
          | (refine CallI.of hq ?_)
          | (refine LoopW.to ih rfl rfl))
      · by_cases he : a[j] = b[k]
        · rw [show cL a b[k] = [] by unfold cL; rw [hF]; exact if_pos he, List.append_nil] at ih
          have hp : a[j].nm = b[k].nm ∧ a[j].ca = b[k].ca ∧ a[j].ki = b[k].ki ∧ a[j].te = b[k].te ∧ a[j].pa = b[k].pa ∧ a[j].li = b[k].li ∧ a[j].fr = b[k].fr ∧ a[j].to = b[k].to ∧ a[j].da = b[k].da ∧ a[j].mi = b[k].mi ∧ a[j].se = b[k].se ∧ a[j].si = b[k].si ∧ a[j].no = b[k].no := by
            rw [he]
            exact ⟨rfl, rfl, rfl, rfl, rfl, rfl, rfl, rfl, rfl, rfl, rfl, rfl, rfl⟩
          repeat' ((conv => whnf); first
          | refine Br.tt ?_
          | refine Br.ff ?_
          | refine Need.w ?_
          | refine Wr.w ?_
          | refine Cmp.t ?_
          | refine Cmp.f ?_
          | refine Rem.w ?_
          | refine Quo.w ?_
          | refine PickV.now rfl ?_
          | refine Pick.now rfl ?_
          | refine Chk.mk rfl ?_
          | refine PickW.w rfl ?_
            | (refine PickW.rec Rqt.cells_length k rfl hlt ?_)
            | (refine PickW.rec Rqt.cells_length j hi hj ?_)
            | (refine CallI.of hq ?_)
            | (refine Cmp.tt hp ?_)
            | (refine LoopW.to ih rfl rfl))
        · rw [show cL a b[k] = [⟨[67], b[k]⟩, ⟨[82], a[j]⟩] by unfold cL; rw [hF]; exact if_neg he, List.flatMap_append, List.length_append] at ih
          repeat' ((conv => whnf); first
          | refine Br.tt ?_
          | refine Br.ff ?_
          | refine Need.w ?_
          | refine Wr.w ?_
          | refine Cmp.t ?_
          | refine Cmp.f ?_
          | refine Rem.w ?_
          | refine Quo.w ?_
          | refine PickV.now rfl ?_
          | refine Pick.now rfl ?_
          | refine Chk.mk rfl ?_
          | refine PickW.w rfl ?_
            | (refine PickW.rec Rqt.cells_length k rfl hlt ?_)
            | (refine PickW.rec Rqt.cells_length j hi hj ?_)
            | (refine CallI.of hq ?_)
            | (refine Cmp.ff (fun h => he (rq_ext h)) ?_)
            | (refine Need.mk (by simp only [List.length_cons, List.length_nil]; omega) ?_)
            | (refine LoopW.to ih rfl rfl))
    · obtain rfl : k = b.length := by omega
      clear ih
      rw [List.take_length]
      have hP : (Dx ++ b.flatMap (cL a)).length ≤ 3000000 := by
        have := one_len 2 (cL_len a) b
        rw [List.length_append]
        omega
      rw [catR_eq]
      generalize Dx ++ b.flatMap (cL a) = Px at *
      repeat' ((conv => whnf); first
      | refine Br.tt ?_
      | refine Br.ff ?_
      | refine Need.w ?_
      | refine Wr.w ?_
      | refine Cmp.t ?_
      | refine Cmp.f ?_
      | refine Rem.w ?_
      | refine Quo.w ?_
      | refine PickV.now rfl ?_
      | refine Pick.now rfl ?_
      | refine Chk.mk rfl ?_
      | refine PickW.w rfl ?_)
      refine LoopW.to (LoopW.up g (fun k => [(0, LQ b), (1, LQ a), (5, .ref ⟨0, 5, 0⟩ 0 (catR Px ((a.take k).flatMap (nL b))).length (catR Px ((a.take k).flatMap (nL b))).length), (9, I k)]) (fun k => [(⟨0, 4, 0⟩, .row false ty_turnroundref02_Line 14 0 []), (⟨0, 5, 0⟩, .row false ty_turnroundref02_Line 14 (catR Px ((a.take k).flatMap (nL b))).length ((catR Px ((a.take k).flatMap (nL b))).flatMap Lnt.cells))]) a.length (fun k hk ih => ?_) 0 (Nat.zero_le _)) rfl rfl
      by_cases hlt : k < a.length
      · obtain ⟨i, hq, hi⟩ := r_twin g b a[k] hb ub
        have ih := ih hlt
        rw [catR_succ Px (nL b) hlt] at ih
        have hX : (catR Px ((a.take k).flatMap (nL b))).length ≤ 5000000 := by
          have := take_len (nL_len b) a k
          rw [catR_eq, List.length_append]
          omega
        generalize catR Px ((a.take k).flatMap (nL b)) = X at *
        have hfl := flatR_length Lnt.cells 14 Lnt.cells_length X
        rcases hi with ⟨hi, hF⟩ | ⟨j, hj, hi, hF⟩
        · rw [show nL b a[k] = [⟨[78], a[k]⟩] by unfold nL; rw [hF], List.flatMap_append, List.length_append] at ih
          repeat' ((conv => whnf); first
          | refine Br.tt ?_
          | refine Br.ff ?_
          | refine Need.w ?_
          | refine Wr.w ?_
          | refine Cmp.t ?_
          | refine Cmp.f ?_
          | refine Rem.w ?_
          | refine Quo.w ?_
          | refine PickV.now rfl ?_
          | refine Pick.now rfl ?_
          | refine Chk.mk rfl ?_
          | refine PickW.w rfl ?_
            | (refine PickW.rec Rqt.cells_length k rfl hlt ?_)
            | (refine CallI.of hq ?_)
            | (refine Need.mk (by simp only [List.length_cons, List.length_nil]; omega) ?_)
            | (refine LoopW.to ih rfl rfl))
        · rw [show nL b a[k] = [] by unfold nL; rw [hF], List.append_nil] at ih
          repeat' ((conv => whnf); first
          | refine Br.tt ?_
          | refine Br.ff ?_
          | refine Need.w ?_
          | refine Wr.w ?_
          | refine Cmp.t ?_
          | refine Cmp.f ?_
          | refine Rem.w ?_
          | refine Quo.w ?_
          | refine PickV.now rfl ?_
          | refine Pick.now rfl ?_
          | refine Chk.mk rfl ?_
          | refine PickW.w rfl ?_
            | (refine PickW.rec Rqt.cells_length k rfl hlt ?_)
            | (refine CallI.of hq ?_)
            | (refine LoopW.to ih rfl rfl))
      · obtain rfl : k = a.length := by omega
        clear ih
        rw [List.take_length, catR_eq, ← hR]
        repeat' ((conv => whnf); first
        | refine Br.tt ?_
        | refine Br.ff ?_
        | refine Need.w ?_
        | refine Wr.w ?_
        | refine Cmp.t ?_
        | refine Cmp.f ?_
        | refine Rem.w ?_
        | refine Quo.w ?_
        | refine PickV.now rfl ?_
        | refine Pick.now rfl ?_
        | refine Chk.mk rfl ?_
        | refine PickW.w rfl ?_
          | (refine Ret.mk ?_))
        rw [if_pos (⟨rfl, rfl⟩ : _ ∧ _)]
end
end Go.Proofs.YtgpgcadcpogcbaaGreatDoor.Co
