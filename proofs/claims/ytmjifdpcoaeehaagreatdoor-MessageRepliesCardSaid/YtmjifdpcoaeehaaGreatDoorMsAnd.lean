
/-
  Answers and what is granted, by the program and by the reference; a law's results.
-/
import Derived.Test.YtmjifdpcoaeehaaGreatDoorMsAnb
import Derived.Test.YtmjifdpcoaeehaaGreatDoorMsChl
import Derived.Test.YtmjifdpcoaeehaaGreatDoorMsAnp
namespace Go.Proofs.YtmjifdpcoaeehaaGreatDoor.Co
open Go Go.Evl
set_option maxRecDepth 100000
def shortR (rs : List Rst) (n : Nat) : Bool := decide (rs.length ≤ n ∨ rs.length = 65) && rs.all fun r => decide (r.nm.length ≤ 40)
section
variable {E : Oracle} (g : Good E)
include g
set_option maxHeartbeats 16000000 in
theorem s_Answers (ai se : List UInt8) (da : Int) (l : List Rqt) (rs : List Rst) (hl : l.length ≤ 1000000) (hr : rs.length ≤ 1000000) :
    Fc E n_message_Answers [S ai, S se, I da, LQ l, LR rs] (if firstI [headE ai se da, chkBo l rs] = 0 then .tup [Msv ⟨ANS, ai, se, da, ansL l rs⟩, I 0] else .tup [Msv zeroM, I (firstI [headE ai se da, chkBo l rs])]) := by
  have h1 := s_checkHead g ai se da
  have h2 := s_checkBoth g l rs hl hr
  by_cases hz : firstI [headE ai se da, chkBo l rs] = 0
  · rw [if_pos hz]
    have hn := (chkBo_zero ((firstI_zero _).1 hz (chkBo l rs) (by simp))).ln
    generalize hR : V.tup [Msv ⟨ANS, ai, se, da, ansL l rs⟩, I 0] = R
    refine g.fn code_message_Answers rfl ?_
    repeat' ((conv => whnf); first
    | refine Br.tt ?_
    | refine Br.ff ?_
    | refine Need.w ?_
    | refine Wr.w ?_
    | refine Cmp.t ?_
    | refine Cmp.f ?_
    | refine Rem.w ?_
    | refine Quo.w ?_
    | refine PickV.now rfl ?_
    | refine Pick.now rfl ?_
    | refine Chk.mk rfl ?_
    | refine PickW.w rfl ?_
      | (apply CallI.of; assumption)
      | (refine CallI.of (s_mfirst2 g _ _) ?_)
      | (refine Cmp.tt hz ?_))
    clear h1 h2 hz
    refine LoopW.to (LoopW.up g (fun k => [(3, LQ l), (10, .ptr ⟨0, 10, 1⟩ 0 0), (13, .ptr ⟨0, 13, 1⟩ 0 0), (34, LR rs), (35, I rs.length), (36, I k)])
      (fun k => [(⟨0, 10, 0⟩, .row false ty_message_Line 14 0 []), (⟨0, 10, 1⟩, .cells ty_message_Message [S [], S [], S [], I 0, .ref ⟨0, 10, 0⟩ 0 0 0]), (⟨0, 33, 0⟩, .row false ty_message_Line 14 (ansL (l.take k) (rs.take k)).length ((ansL (l.take k) (rs.take k)).flatMap Lnt.cells)), (⟨0, 13, 0⟩, .row false ty_message_Line 14 0 []), (⟨0, 13, 1⟩, .cells ty_message_Message [S ANS, S ai, S se, I da, .ref ⟨0, 33, 0⟩ 0 (ansL (l.take k) (rs.take k)).length (ansL (l.take k) (rs.take k)).length])]) rs.length (fun k hk ih => ?_) 0 (Nat.zero_le _)) rfl rfl
    by_cases hlt : k < rs.length
    · have hlt' : k < l.length := by omega
      clear hR
      have ih := ih hlt
      rw [ansL_succ hlt' hlt, List.flatMap_append, List.length_append] at ih
      have hX : (ansL (l.take k) (rs.take k)).length ≤ 1000000 := by
        unfold ansL
        rw [List.length_zipWith, List.length_take, List.length_take]
        omega
      generalize ansL (l.take k) (rs.take k) = X at *
      have hfl := flatR_length Lnt.cells 14 Lnt.cells_length X
      have hmv := s_mmoved g l[k] rs[k].mi
      by_cases hb : rs[k].gr = true
      · by_cases hm : rs[k].mi = l[k].mi
        · rw [show ansLn l[k] rs[k] = ⟨[75], l[k]⟩ by unfold ansLn; rw [if_pos hb, if_pos hm]] at ih
          repeat' ((conv => whnf); first
          | refine Br.tt ?_
          | refine Br.ff ?_
          | refine Need.w ?_
          | refine Wr.w ?_
          | refine Cmp.t ?_
          | refine Cmp.f ?_
          | refine Rem.w ?_
          | refine Quo.w ?_
          | refine PickV.now rfl ?_
          | refine Pick.now rfl ?_
          | refine Chk.mk rfl ?_
          | refine PickW.w rfl ?_
            | (refine PickW.rec Rst.cells_length k rfl hlt ?_)
            | (refine PickW.rec Rqt.cells_length k rfl hlt' ?_)
            | (rw [hb])
            | (refine Cmp.tt hm ?_)
            | (refine Need.mk (by simp only [List.length_cons, List.length_nil]; omega) ?_)
            | (refine LoopW.to ih rfl rfl))
        · rw [show ansLn l[k] rs[k] = ⟨[79], movQ l[k] rs[k].mi⟩ by unfold ansLn; rw [if_pos hb, if_neg hm]] at ih
          repeat' ((conv => whnf); first
          | refine Br.tt ?_
          | refine Br.ff ?_
          | refine Need.w ?_
          | refine Wr.w ?_
          | refine Cmp.t ?_
          | refine Cmp.f ?_
          | refine Rem.w ?_
          | refine Quo.w ?_
          | refine PickV.now rfl ?_
          | refine Pick.now rfl ?_
          | refine Chk.mk rfl ?_
          | refine PickW.w rfl ?_
            | (refine PickW.rec Rst.cells_length k rfl hlt ?_)
            | (refine PickW.rec Rqt.cells_length k rfl hlt' ?_)
            | (rw [hb])
            | (refine Cmp.ff hm ?_)
            | (refine CallI.of hmv ?_)
            | (refine Need.mk (by simp only [List.length_cons, List.length_nil]; omega) ?_)
            | (refine LoopW.to ih rfl rfl))
      · rw [show ansLn l[k] rs[k] = ⟨[85], l[k]⟩ by unfold ansLn; rw [if_neg hb]] at ih
        rw [Bool.not_eq_true] at hb
        repeat' ((conv => whnf); first
        | refine Br.tt ?_
        | refine Br.ff ?_
        | refine Need.w ?_
        | refine Wr.w ?_
        | refine Cmp.t ?_
        | refine Cmp.f ?_
        | refine Rem.w ?_
        | refine Quo.w ?_
        | refine PickV.now rfl ?_
        | refine Pick.now rfl ?_
        | refine Chk.mk rfl ?_
        | refine PickW.w rfl ?_
          | (refine PickW.rec Rst.cells_length k rfl hlt ?_)
          | (refine PickW.rec Rqt.cells_length k rfl hlt' ?_)
          | (rw [hb])
          | (refine Need.mk (by simp only [List.length_cons, List.length_nil]; omega) ?_)
          | (refine LoopW.to ih rfl rfl))
    · obtain rfl : k = rs.length := by omega
      clear ih
      rw [List.take_length, ← hn, List.take_length, ← hR]
      generalize ansL l rs = X
      repeat' ((conv => whnf); first
      | refine Br.tt ?_
      | refine Br.ff ?_
      | refine Need.w ?_
      | refine Wr.w ?_
      | refine Cmp.t ?_
      | refine Cmp.f ?_
      | refine Rem.w ?_
      | refine Quo.w ?_
      | refine PickV.now rfl ?_
      | refine Pick.now rfl ?_
      | refine Chk.mk rfl ?_
      | refine PickW.w rfl ?_
        | (refine Need.mk ⟨rfl, by simp⟩ ?_)
        | (refine Ret.mk ?_))
      simp
      rfl
  · rw [if_neg hz]
    refine g.fn code_message_Answers rfl ?_
    repeat' ((conv => whnf); first
    | refine Br.tt ?_
    | refine Br.ff ?_
    | refine Need.w ?_
    | refine Wr.w ?_
    | refine Cmp.t ?_
    | refine Cmp.f ?_
    | refine Rem.w ?_
    | refine Quo.w ?_
    | refine PickV.now rfl ?_
    | refine Pick.now rfl ?_
    | refine Chk.mk rfl ?_
    | refine PickW.w rfl ?_
      | (apply CallI.of; assumption)
      | (refine CallI.of (s_mfirst2 g _ _) ?_)
      | (refine Cmp.ff hz ?_)
      | (refine Ret.mk rfl))
set_option maxHeartbeats 16000000 in
theorem r_Answers (ai se : List UInt8) (da : Int) (l : List Rqt) (rs : List Rst) (hl : l.length ≤ 1000000) (hn : l.length = rs.length) :
    Fc E n_ref02_Answers [S ai, S se, I da, LQ l, LR rs] (Msv ⟨ANS, ai, se, da, ansL l rs⟩) := by
  generalize hR : Msv ⟨ANS, ai, se, da, ansL l rs⟩ = R
  refine g.fn code_ref02_Answers rfl ?_
  repeat' ((conv => whnf); first
  | refine Br.tt ?_
  | refine Br.ff ?_
  | refine Need.w ?_
  | refine Wr.w ?_
  | refine Cmp.t ?_
  | refine Cmp.f ?_
  | refine Rem.w ?_
  | refine Quo.w ?_
  | refine PickV.now rfl ?_
  | refine Pick.now rfl ?_
  | refine Chk.mk rfl ?_
  | refine PickW.w rfl ?_)
  refine LoopW.to (LoopW.up g (fun k => [(3, LQ l), (4, LR rs), (10, .ptr ⟨0, 10, 1⟩ 0 0), (11, .ptr ⟨0, 11, 1⟩ 0 0), (12, I k)])
    (fun k => [(⟨0, 10, 0⟩, .row false ty_turnroundref02_Line 14 0 []), (⟨0, 10, 1⟩, .cells ty_turnroundref02_Message [S [], S [], S [], I 0, .ref ⟨0, 10, 0⟩ 0 0 0]), (⟨0, 17, 0⟩, .row false ty_turnroundref02_Line 14 (ansL (l.take k) (rs.take k)).length ((ansL (l.take k) (rs.take k)).flatMap Lnt.cells)), (⟨0, 11, 0⟩, .row false ty_turnroundref02_Line 14 0 []), (⟨0, 11, 1⟩, .cells ty_turnroundref02_Message [S ANS, S ai, S se, I da, .ref ⟨0, 17, 0⟩ 0 (ansL (l.take k) (rs.take k)).length (ansL (l.take k) (rs.take k)).length])]) l.length (fun k hk ih => ?_) 0 (Nat.zero_le _)) rfl rfl
  by_cases hlt : k < l.length
  · have hlt' : k < rs.length := by omega
    clear hR
    have ih := ih hlt
    rw [ansL_succ hlt hlt', List.flatMap_append, List.length_append] at ih
    have hX : (ansL (l.take k) (rs.take k)).length ≤ 1000000 := by
      unfold ansL
      rw [List.length_zipWith, List.length_take, List.length_take]
      omega
    generalize ansL (l.take k) (rs.take k) = X at *
    have hfl := flatR_length Lnt.cells 14 Lnt.cells_length X
    have hmv := r_mmoved g l[k] rs[k].mi
    by_cases hb : rs[k].gr = true
    · by_cases hm : rs[k].mi = l[k].mi
      · rw [show ansLn l[k] rs[k] = ⟨[75], l[k]⟩ by unfold ansLn; rw [if_pos hb, if_pos hm]] at ih
        repeat' ((conv => whnf); first
        | refine Br.tt ?_
        | refine Br.ff ?_
        | refine Need.w ?_
        | refine Wr.w ?_
        | refine Cmp.t ?_
        | refine Cmp.f ?_
        | refine Rem.w ?_
        | refine Quo.w ?_
        | refine PickV.now rfl ?_
        | refine Pick.now rfl ?_
        | refine Chk.mk rfl ?_
        | refine PickW.w rfl ?_
          | (refine Pick.rec Rst.cells_length k rfl hlt' rfl ?_)
          | (refine Pick.rec Rqt.cells_length k rfl hlt rfl ?_)
          | (refine PickW.rec Rqt.cells_length k rfl hlt ?_)
          | (rw [hb])
          | (refine Cmp.tt hm ?_)
          | (refine Need.mk (by simp only [List.length_cons, List.length_nil]; omega) ?_)
          | (refine LoopW.to ih rfl rfl))
      · rw [show ansLn l[k] rs[k] = ⟨[79], movQ l[k] rs[k].mi⟩ by unfold ansLn; rw [if_pos hb, if_neg hm]] at ih
        repeat' ((conv => whnf); first
        | refine Br.tt ?_
        | refine Br.ff ?_
        | refine Need.w ?_
        | refine Wr.w ?_
        | refine Cmp.t ?_
        | refine Cmp.f ?_
        | refine Rem.w ?_
        | refine Quo.w ?_
        | refine PickV.now rfl ?_
        | refine Pick.now rfl ?_
        | refine Chk.mk rfl ?_
        | refine PickW.w rfl ?_
          | (refine Pick.rec Rst.cells_length k rfl hlt' rfl ?_)
          | (refine Pick.rec Rqt.cells_length k rfl hlt rfl ?_)
          | (refine PickW.rec Rqt.cells_length k rfl hlt ?_)
          | (rw [hb])
          | (refine Cmp.ff hm ?_)
          | (refine CallI.of hmv ?_)
          | (refine Need.mk (by simp only [List.length_cons, List.length_nil]; omega) ?_)
          | (refine LoopW.to ih rfl rfl))
    · rw [show ansLn l[k] rs[k] = ⟨[85], l[k]⟩ by unfold ansLn; rw [if_neg hb]] at ih
      rw [Bool.not_eq_true] at hb
      repeat' ((conv => whnf); first
      | refine Br.tt ?_
      | refine Br.ff ?_
      | refine Need.w ?_
      | refine Wr.w ?_
      | refine Cmp.t ?_
      | refine Cmp.f ?_
      | refine Rem.w ?_
      | refine Quo.w ?_
      | refine PickV.now rfl ?_
      | refine Pick.now rfl ?_
      | refine Chk.mk rfl ?_
      | refine PickW.w rfl ?_
        | (refine Pick.rec Rst.cells_length k rfl hlt' rfl ?_)
        | (refine Pick.rec Rqt.cells_length k rfl hlt rfl ?_)
        | (refine PickW.rec Rqt.cells_length k rfl hlt ?_)
        | (rw [hb])
        | (refine Need.mk (by simp only [List.length_cons, List.length_nil]; omega) ?_)
        | (refine LoopW.to ih rfl rfl))
  · obtain rfl : k = l.length := by omega
    clear ih
    rw [List.take_length, hn, List.take_length, ← hR]
    generalize ansL l rs = X
    repeat' ((conv => whnf); first
    | refine Br.tt ?_
    | refine Br.ff ?_
    | refine Need.w ?_
    | refine Wr.w ?_
    | refine Cmp.t ?_
    | refine Cmp.f ?_
    | refine Rem.w ?_
    | refine Quo.w ?_
    | refine PickV.now rfl ?_
    | refine Pick.now rfl ?_
    | refine Chk.mk rfl ?_
    | refine PickW.w rfl ?_
      | (refine Need.mk ⟨rfl, by simp⟩ ?_)
      | (refine Ret.mk ?_))
    exact congrArg (fun x => V.d (.agg [.str ANS, .str ai, .str se, DI da, .list X.length x])) (if_pos ⟨rfl, rfl⟩)
set_option maxHeartbeats 8000000 in
theorem s_Granted (l : List Rqt) (rs : List Rst) (hl : l.length ≤ 1000000) (hr : rs.length ≤ 1000000) :
    Fc E n_message_Granted [LQ l, LR rs] (if chkBo l rs = 0 then .tup [LQ (grL l rs), I 0] else .tup [LQ [], I (chkBo l rs)]) := by
  have h2 := s_checkBoth g l rs hl hr
  by_cases hz : chkBo l rs = 0
  · rw [if_pos hz]
    rw [hz] at h2
    have hn := (chkBo_zero hz).ln
    generalize hR : V.tup [LQ (grL l rs), I 0] = R
    refine g.fn code_message_Granted rfl ?_
    repeat' ((conv => whnf); first
    | refine Br.tt ?_
    | refine Br.ff ?_
    | refine Need.w ?_
    | refine Wr.w ?_
    | refine Cmp.t ?_
    | refine Cmp.f ?_
    | refine Rem.w ?_
    | refine Quo.w ?_
    | refine PickV.now rfl ?_
    | refine Pick.now rfl ?_
    | refine Chk.mk rfl ?_
    | refine PickW.w rfl ?_
      | (apply CallI.of; assumption))
    clear h2 hz
    refine LoopW.to (LoopW.up g (fun k => [(0, LQ l), (7, .ref ⟨0, 7, 0⟩ 0 (grL (l.take k) (rs.take k)).length (grL (l.take k) (rs.take k)).length), (16, LR rs), (17, I rs.length), (18, I k)])
      (fun k => [(⟨0, 4, 0⟩, .row false ty_api_Request 13 0 []), (⟨0, 7, 0⟩, .row false ty_api_Request 13 (grL (l.take k) (rs.take k)).length ((grL (l.take k) (rs.take k)).flatMap Rqt.cells))]) rs.length (fun k hk ih => ?_) 0 (Nat.zero_le _)) rfl rfl
    by_cases hlt : k < rs.length
    · have hlt' : k < l.length := by omega
      clear hR
      have ih := ih hlt
      rw [grL_succ hlt' hlt] at ih
      have hX := grL_len (l.take k) (rs.take k)
      rw [List.length_take] at hX
      generalize grL (l.take k) (rs.take k) = X at *
      have hfl := flatR_length Rqt.cells 13 Rqt.cells_length X
      have hmv := s_mmoved g l[k] rs[k].mi
      by_cases hb : rs[k].gr = true
      · rw [if_pos hb, List.flatMap_append, List.length_append] at ih
        repeat' ((conv => whnf); first
        | refine Br.tt ?_
        | refine Br.ff ?_
        | refine Need.w ?_
        | refine Wr.w ?_
        | refine Cmp.t ?_
        | refine Cmp.f ?_
        | refine Rem.w ?_
        | refine Quo.w ?_
        | refine PickV.now rfl ?_
        | refine Pick.now rfl ?_
        | refine Chk.mk rfl ?_
        | refine PickW.w rfl ?_
          | (refine PickW.rec Rst.cells_length k rfl hlt ?_)
          | (refine PickW.rec Rqt.cells_length k rfl hlt' ?_)
          | (rw [hb])
          | (refine CallI.of hmv ?_)
          | (refine Need.mk (by simp [Rqt.cells_length]; omega) ?_)
          | (refine LoopW.to ih rfl rfl))
      · rw [if_neg hb, List.append_nil] at ih
        rw [Bool.not_eq_true] at hb
        repeat' ((conv => whnf); first
        | refine Br.tt ?_
        | refine Br.ff ?_
        | refine Need.w ?_
        | refine Wr.w ?_
        | refine Cmp.t ?_
        | refine Cmp.f ?_
        | refine Rem.w ?_
        | refine Quo.w ?_
        | refine PickV.now rfl ?_
        | refine Pick.now rfl ?_
        | refine Chk.mk rfl ?_
        | refine PickW.w rfl ?_
          | (refine PickW.rec Rst.cells_length k rfl hlt ?_)
          | (rw [hb])
          | (refine LoopW.to ih rfl rfl))
    · obtain rfl : k = rs.length := by omega
      clear ih
      rw [List.take_length, ← hn, List.take_length, ← hR]
      generalize grL l rs = X
      repeat' ((conv => whnf); first
      | refine Br.tt ?_
      | refine Br.ff ?_
      | refine Need.w ?_
      | refine Wr.w ?_
      | refine Cmp.t ?_
      | refine Cmp.f ?_
      | refine Rem.w ?_
      | refine Quo.w ?_
      | refine PickV.now rfl ?_
      | refine Pick.now rfl ?_
      | refine Chk.mk rfl ?_
      | refine PickW.w rfl ?_
        | (refine Ret.mk ?_))
      rw [if_pos ⟨rfl, rfl⟩]
  · rw [if_neg hz]
    refine g.fn code_message_Granted rfl ?_
    repeat' ((conv => whnf); first
    | refine Br.tt ?_
    | refine Br.ff ?_
    | refine Need.w ?_
    | refine Wr.w ?_
    | refine Cmp.t ?_
    | refine Cmp.f ?_
    | refine Rem.w ?_
    | refine Quo.w ?_
    | refine PickV.now rfl ?_
    | refine Pick.now rfl ?_
    | refine Chk.mk rfl ?_
    | refine PickW.w rfl ?_
      | (apply CallI.of; assumption)
      | (refine Cmp.ff hz ?_)
      | (refine Ret.mk rfl))
set_option maxHeartbeats 8000000 in
theorem r_Granted (l : List Rqt) (rs : List Rst) (hl : l.length ≤ 1000000) (hn : l.length = rs.length) : Fc E n_ref02_Granted [LQ l, LR rs] (LQ (grL l rs)) := by
  generalize hR : LQ (grL l rs) = R
  refine g.fn code_ref02_Granted rfl ?_
  repeat' ((conv => whnf); first
  | refine Br.tt ?_
  | refine Br.ff ?_
  | refine Need.w ?_
  | refine Wr.w ?_
  | refine Cmp.t ?_
  | refine Cmp.f ?_
  | refine Rem.w ?_
  | refine Quo.w ?_
  | refine PickV.now rfl ?_
  | refine Pick.now rfl ?_
  | refine Chk.mk rfl ?_
  | refine PickW.w rfl ?_)
  refine LoopW.to (LoopW.up g (fun k => [(0, LQ l), (1, LR rs), (5, .ref ⟨0, 5, 0⟩ 0 (grL (l.take k) (rs.take k)).length (grL (l.take k) (rs.take k)).length), (6, I k)])
    (fun k => [(⟨0, 4, 0⟩, .row false ty_api_Request 13 0 []), (⟨0, 5, 0⟩, .row false ty_api_Request 13 (grL (l.take k) (rs.take k)).length ((grL (l.take k) (rs.take k)).flatMap Rqt.cells))]) l.length (fun k hk ih => ?_) 0 (Nat.zero_le _)) rfl rfl
  by_cases hlt : k < l.length
  · have hlt' : k < rs.length := by omega
    clear hR
    have ih := ih hlt
    rw [grL_succ hlt hlt'] at ih
    have hX := grL_len (l.take k) (rs.take k)
    rw [List.length_take] at hX
    generalize grL (l.take k) (rs.take k) = X at *
    have hfl := flatR_length Rqt.cells 13 Rqt.cells_length X
    have hmv := r_mmoved g l[k] rs[k].mi
    by_cases hb : rs[k].gr = true
    · rw [if_pos hb, List.flatMap_append, List.length_append] at ih
      repeat' ((conv => whnf); first
      | refine Br.tt ?_
      | refine Br.ff ?_
      | refine Need.w ?_
      | refine Wr.w ?_
      | refine Cmp.t ?_
      | refine Cmp.f ?_
      | refine Rem.w ?_
      | refine Quo.w ?_
      | refine PickV.now rfl ?_
      | refine Pick.now rfl ?_
      | refine Chk.mk rfl ?_
      | refine PickW.w rfl ?_
        | (refine Pick.rec Rst.cells_length k rfl hlt' rfl ?_)
        | (refine PickW.rec Rqt.cells_length k rfl hlt ?_)
        | (rw [hb])
        | (refine CallI.of hmv ?_)
        | (refine Need.mk (by simp [Rqt.cells_length]; omega) ?_)
        | (refine LoopW.to ih rfl rfl))
    · rw [if_neg hb, List.append_nil] at ih
      rw [Bool.not_eq_true] at hb
      repeat' ((conv => whnf); first
      | refine Br.tt ?_
      | refine Br.ff ?_
      | refine Need.w ?_
      | refine Wr.w ?_
      | refine Cmp.t ?_
      | refine Cmp.f ?_
      | refine Rem.w ?_
      | refine Quo.w ?_
      | refine PickV.now rfl ?_
      | refine Pick.now rfl ?_
      | refine Chk.mk rfl ?_
      | refine PickW.w rfl ?_
        | (refine Pick.rec Rst.cells_length k rfl hlt' rfl ?_)
        | (rw [hb])
        | (refine LoopW.to ih rfl rfl))
  · obtain rfl : k = l.length := by omega
    clear ih
    rw [List.take_length, hn, List.take_length, ← hR]
    generalize grL l rs = X
    repeat' ((conv => whnf); first
    | refine Br.tt ?_
    | refine Br.ff ?_
    | refine Need.w ?_
    | refine Wr.w ?_
    | refine Cmp.t ?_
    | refine Cmp.f ?_
    | refine Rem.w ?_
    | refine Quo.w ?_
    | refine PickV.now rfl ?_
    | refine Pick.now rfl ?_
    | refine Chk.mk rfl ?_
    | refine PickW.w rfl ?_
      | (refine Ret.mk ?_))
    rw [if_pos ⟨rfl, rfl⟩]
theorem w_results (rs : List Rst) (hl : rs.length ≤ 1000000) : Fc E n_law02_results [LR rs] (LR rs) := by
  refine g.fn code_law02_results rfl ?_
  repeat' ((conv => whnf); first
  | refine Br.tt ?_
  | refine Br.ff ?_
  | refine Need.w ?_
  | refine Wr.w ?_
  | refine Cmp.t ?_
  | refine Cmp.f ?_
  | refine Rem.w ?_
  | refine Quo.w ?_
  | refine PickV.now rfl ?_
  | refine Pick.now rfl ?_
  | refine Chk.mk rfl ?_
  | refine PickW.w rfl ?_)
  refine LoopW.to (LoopW.up g (fun k => [(3, .ref ⟨0, 3, 0⟩ 0 k k), (6, LR rs), (7, I rs.length), (8, I k)]) (fun k => [(⟨0, 2, 0⟩, .row false ty_message_Result 3 0 []), (⟨0, 3, 0⟩, .row false ty_message_Result 3 k ((rs.take k).flatMap Rst.cells))]) rs.length (fun k hk ih => ?_) 0 (Nat.zero_le _)) rfl rfl
  by_cases hlt : k < rs.length
  · have hf := flatR_take Rst.cells rs k hlt
    have ih := ih hlt
    rw [hf] at ih
    repeat' ((conv => whnf); first
    | refine Br.tt ?_
    | refine Br.ff ?_
    | refine Need.w ?_
    | refine Wr.w ?_
    | refine Cmp.t ?_
    | refine Cmp.f ?_
    | refine Rem.w ?_
    | refine Quo.w ?_
    | refine PickV.now rfl ?_
    | refine Pick.now rfl ?_
    | refine Chk.mk rfl ?_
    | refine PickW.w rfl ?_
      | (refine PickW.rec Rst.cells_length k rfl hlt ?_)
      | (refine Need.mk (by simp; omega) ?_)
      | (refine LoopW.to ih rfl rfl))
  · obtain rfl : k = rs.length := by omega
    rw [List.take_length]
    repeat' ((conv => whnf); first
    | refine Br.tt ?_
    | refine Br.ff ?_
    | refine Need.w ?_
    | refine Wr.w ?_
    | refine Cmp.t ?_
    | refine Cmp.f ?_
    | refine Rem.w ?_
    | refine Quo.w ?_
    | refine PickV.now rfl ?_
    | refine Pick.now rfl ?_
    | refine Chk.mk rfl ?_
    | refine PickW.w rfl ?_
      | (refine Ret.mk ?_))
    rw [if_pos ⟨rfl, rfl⟩]
theorem r_SameRequests (l : List Rqt) (hl : l.length ≤ 1000000) : Fc E n_ref02_SameRequests [LQ l, LQ l] (B true) := by
  refine g.fn code_ref02_SameRequests rfl ?_
  repeat' ((conv => whnf); first
  | refine Br.tt ?_
  | refine Br.ff ?_
  | refine Need.w ?_
  | refine Wr.w ?_
  | refine Cmp.t ?_
  | refine Cmp.f ?_
  | refine Rem.w ?_
  | refine Quo.w ?_
  | refine PickV.now rfl ?_
  | refine Pick.now rfl ?_
  | refine Chk.mk rfl ?_
  | refine PickW.w rfl ?_
    | (refine Cmp.tt rfl ?_))
  refine LoopW.to (LoopW.up g (fun k => [(0, LQ l), (1, LQ l), (5, I k)]) (fun _ => []) l.length (fun k hk ih => ?_) 0 (Nat.zero_le _)) rfl rfl
  by_cases hlt : k < l.length
  · have ih := ih hlt
    repeat' ((conv => whnf); first
    | refine Br.tt ?_
    | refine Br.ff ?_
    | refine Need.w ?_
    | refine Wr.w ?_
    | refine Cmp.t ?_
    | refine Cmp.f ?_
    | refine Rem.w ?_
    | refine Quo.w ?_
    | refine PickV.now rfl ?_
    | refine Pick.now rfl ?_
    | refine Chk.mk rfl ?_
    | refine PickW.w rfl ?_
      | (refine PickW.rec Rqt.cells_length k rfl hlt ?_)
      | (refine Cmp.tt ⟨rfl, rfl, rfl, rfl, rfl, rfl, rfl, rfl, rfl, rfl, rfl, rfl, rfl⟩ ?_)
      | (refine LoopW.to ih rfl rfl))
  · repeat' ((conv => whnf); first
  | refine Br.tt ?_
  | refine Br.ff ?_
  | refine Need.w ?_
  | refine Wr.w ?_
  | refine Cmp.t ?_
  | refine Cmp.f ?_
  | refine Rem.w ?_
  | refine Quo.w ?_
  | refine PickV.now rfl ?_
  | refine Pick.now rfl ?_
  | refine Chk.mk rfl ?_
  | refine PickW.w rfl ?_
      | (refine Ret.mk rfl))
theorem r_ShortResults (rs : List Rst) (n : Nat) (hn : n ≤ 64) : Fc E n_ref02_ShortResults [LR rs, I n] (B (shortR rs n)) := by
  refine g.fn code_ref02_ShortResults rfl ?_
  unfold shortR
  by_cases hl : rs.length ≤ n ∨ rs.length = 65
  · rw [decide_eq_true hl, Bool.true_and]
    repeat' ((conv => whnf); first
    | refine Br.tt ?_
    | refine Br.ff ?_
    | refine Need.w ?_
    | refine Wr.w ?_
    | refine Cmp.t ?_
    | refine Cmp.f ?_
    | refine Rem.w ?_
    | refine Quo.w ?_
    | refine PickV.now rfl ?_
    | refine Pick.now rfl ?_
    | refine Chk.mk rfl ?_
    | refine PickW.w rfl ?_
      | (refine Cmp.mk (fun h => ?_) (fun h => ?_))
      | (refine Rem.any (by omega) (fun r hr he => ?_))
      | (refine Br.mk (fun h => ?_) (fun h => ?_))
      | (exfalso; omega))
    all_goals
      refine LoopW.to (LoopW.upP g (fun k => [(0, LR rs), (5, I k)]) (fun _ => []) (fun k => ∀ i (h : i < rs.length), i < k → rs[i].nm.length ≤ 40) rs.length (fun k hk hp ih => ?_) 0 (Nat.zero_le _) (fun i _ hi => absurd hi (Nat.not_lt_zero _))) rfl rfl
      by_cases hlt : k < rs.length
      · by_cases hq : rs[k].nm.length ≤ 40
        · have ih := ih hlt fun i h hi => by
            by_cases e : i = k
            · subst e; exact hq
            · exact hp i h (by omega)
          clear hp
          repeat' ((conv => whnf); first
          | refine Br.tt ?_
          | refine Br.ff ?_
          | refine Need.w ?_
          | refine Wr.w ?_
          | refine Cmp.t ?_
          | refine Cmp.f ?_
          | refine Rem.w ?_
          | refine Quo.w ?_
          | refine PickV.now rfl ?_
          | refine Pick.now rfl ?_
          | refine Chk.mk rfl ?_
          | refine PickW.w rfl ?_
            | (refine Pick.rec Rst.cells_length k rfl hlt rfl ?_)
            | (refine LoopW.to ih rfl rfl))
        · have hno : (rs.all fun r => decide (r.nm.length ≤ 40)) = false := by
            rw [List.all_eq_false]
            exact ⟨_, List.getElem_mem hlt, by simpa using hq⟩
          rw [hno]
          clear hp
          repeat' ((conv => whnf); first
          | refine Br.tt ?_
          | refine Br.ff ?_
          | refine Need.w ?_
          | refine Wr.w ?_
          | refine Cmp.t ?_
          | refine Cmp.f ?_
          | refine Rem.w ?_
          | refine Quo.w ?_
          | refine PickV.now rfl ?_
          | refine Pick.now rfl ?_
          | refine Chk.mk rfl ?_
          | refine PickW.w rfl ?_
            | (refine Pick.rec Rst.cells_length k rfl hlt rfl ?_)
            | (refine Ret.mk rfl))
      · have hall : (rs.all fun r => decide (r.nm.length ≤ 40)) = true := List.all_eq_true.2 fun x hx => by
          obtain ⟨i, hi, rfl⟩ := List.getElem_of_mem hx
          exact decide_eq_true (hp i hi (by omega))
        rw [hall]
        clear hp
        repeat' ((conv => whnf); first
        | refine Br.tt ?_
        | refine Br.ff ?_
        | refine Need.w ?_
        | refine Wr.w ?_
        | refine Cmp.t ?_
        | refine Cmp.f ?_
        | refine Rem.w ?_
        | refine Quo.w ?_
        | refine PickV.now rfl ?_
        | refine Pick.now rfl ?_
        | refine Chk.mk rfl ?_
        | refine PickW.w rfl ?_
          | (refine Ret.mk rfl))
  · rw [decide_eq_false hl, Bool.false_and]
    repeat' ((conv => whnf); first
    | refine Br.tt ?_
    | refine Br.ff ?_
    | refine Need.w ?_
    | refine Wr.w ?_
    | refine Cmp.t ?_
    | refine Cmp.f ?_
    | refine Rem.w ?_
    | refine Quo.w ?_
    | refine PickV.now rfl ?_
    | refine Pick.now rfl ?_
    | refine Chk.mk rfl ?_
    | refine PickW.w rfl ?_
      | (refine Cmp.mk (fun h => ?_) (fun h => ?_))
      | (refine Rem.any (by omega) (fun r hr he => ?_))
      | (refine Br.mk (fun h => ?_) (fun h => ?_))
      | (refine Ret.mk rfl)
      | (exfalso; omega))
end
end Go.Proofs.YtmjifdpcoaeehaaGreatDoor.Co
