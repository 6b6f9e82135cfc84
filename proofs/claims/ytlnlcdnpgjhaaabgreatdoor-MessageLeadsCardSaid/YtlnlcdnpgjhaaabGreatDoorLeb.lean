/-
  MessageLeads returns true, for every argument: the law, and the last part of what it leans on.
-/
import Derived.KernelRfl
import Derived.Laws.RangeAny
import Derived.Lib.SplitLaws
import Derived.Test.YtlnlcdnpgjhaaabGreatDoorEvE
import Derived.Test.YtlnlcdnpgjhaaabGreatDoorEvX
import Derived.Test.YtlnlcdnpgjhaaabGreatDoorGood
import Derived.Test.YtlnlcdnpgjhaaabGreatDoorRead
import Derived.Test.YtlnlcdnpgjhaaabGreatDoorLea
/-
 Requests, by the program.
-/
namespace Go.Proofs.YtlnlcdnpgjhaaabGreatDoor.Co
open Go Go.Evl
set_option maxRecDepth 100000
abbrev oA (l : List Ent) : Mem := [(⟨0, 2, 0⟩, .row true ty_message_Entry 15 0 []), (⟨0, 5, 0⟩, .row true ty_message_Entry 15 l.length (l.flatMap Ent.cells))]
abbrev oB (l1 : List Ent) (c : Nat) (l : List Ent) : Mem := [(⟨0, 2, 0⟩, .row true ty_message_Entry 15 0 []), (⟨0, 5, 0⟩, .row true ty_message_Entry 15 l1.length (l1.flatMap Ent.cells)), (⟨0, 75, c⟩, .row true ty_message_Entry 15 l.length (l.flatMap Ent.cells))]
abbrev eO (ms : List Mst) (o : Evl.Id) (n i : Nat) : Env := [(0, LMs ms), (5, .ref o 0 n n), (6, I ((i - 1 : Nat) : Int)), (7, I 0), (16, LMs ms), (17, I ms.length), (18, I i)]
section
variable {E : Oracle} (g : Good E)
include g
theorem s_firstW (f p m : Mst) (b1 b2 b3 : Bool) (h1 : b1 = !decide (m.ki = REQ)) (h2 : b2 = !decide (m.ai = f.ai ∧ m.se = f.se)) (h3 : b3 = decide (m.da < p.da)) : Fc E n_message_first [.d (.list 4 [DI (chkMs m), DI (if b1 = true then 13 else 0), DI (if b2 = true then 29 else 0), DI (if b3 = true then 11 else 0)])] (I (msgE f p m)) := by
 have h := s_mfirst4 g (chkMs m) (if b1 = true then 13 else 0) (if b2 = true then 29 else 0) (if b3 = true then 11 else 0)
 have e : msgE f p m = firstI [chkMs m, if b1 = true then 13 else 0, if b2 = true then 29 else 0, if b3 = true then 11 else 0] := by
  unfold msgE
  congr 1
  subst h1 h2 h3
  by_cases q1 : m.ki = REQ <;> by_cases q2 : m.ai = f.ai ∧ m.se = f.se <;> by_cases q3 : m.da < p.da <;> simp [q1, q2, q3]
 rw [e]
 exact h
set_option maxHeartbeats 16000000 in
theorem s_Requests (ms : List Mst) (hms : ms.length ≤ 1000) (hls : ∀ m ∈ ms, m.ls.length ≤ 1000000) : Fc E n_message_Requests [LMs ms] (.tup [LE (reqs ms).1, I ((reqs ms).2.1 : Nat), I (reqs ms).2.2]) := by
 refine g.fn code_message_Requests rfl ?_
 by_cases h64 : 64 < ms.length
 ·unfold reqs
  rw [if_pos h64]
  repeat' ((conv => whnf); first
  | refine Ya ?_ | refine Yb ?_ | refine Yc ?_ | refine Yd ?_ | refine Ye ?_ | refine Yf ?_ | refine Yg ?_ | refine Yh ?_ | refine Yi rfl ?_ | refine Yj rfl ?_ | refine Yk rfl ?_ | refine Yl rfl ?_
   | (refine Ret.mk rfl))
 ·by_cases h0 : ms.length = 0
  ·obtain rfl := List.length_eq_zero_iff.1 h0
   repeat' ((conv => whnf); first
   | refine Ya ?_ | refine Yb ?_ | refine Yc ?_ | refine Yd ?_ | refine Ye ?_ | refine Yf ?_ | refine Yg ?_ | refine Yh ?_ | refine Yi rfl ?_ | refine Yj rfl ?_ | refine Yk rfl ?_ | refine Yl rfl ?_
    | (refine LoopW.step g.lim ?_)
    | (refine Ret.mk rfl))
  ·have hpos : 0 < ms.length := by omega
   generalize hR : V.tup [LE (reqs ms).1, I ((reqs ms).2.1 : Nat), I (reqs ms).2.2] = R
   rw [reqs_eq hpos (by omega)] at hR
   rw [ms_get hpos] at hR
   repeat' ((conv => whnf); first
   | refine Ya ?_ | refine Yb ?_ | refine Yc ?_ | refine Yd ?_ | refine Ye ?_ | refine Yf ?_ | refine Yg ?_ | refine Yh ?_ | refine Yi rfl ?_ | refine Yj rfl ?_ | refine Yk rfl ?_ | refine Yl rfl ?_)
   refine LoopW.to (LoopW.by (σ := Option (List Ent × Nat) × List Ent × Nat) g (fun s => s.2.1.length ≤ 64 ∧ s.2.2 ≤ ms.length ∧ reqG ms[0] ms[0] 0 [] ms = reqG ms[0] (ms.getD (s.2.2 - 1) zeroM) s.2.2 s.2.1 (ms.drop s.2.2)) (fun s => match s.1 with | none => eO ms ⟨0, 5, 0⟩ s.2.1.length s.2.2 | some q => eO ms ⟨0, 75, q.2⟩ s.2.1.length s.2.2) (fun s => match s.1 with | none => oA s.2.1 | some q => oB q.1 q.2 s.2.1) (fun s => ms.length - s.2.2) ?_ (none, [], 0) ⟨by simp, Nat.zero_le _, by rw [show 0 - 1 = 0 from rfl, ms_get hpos]; rfl⟩) rfl rfl
   rintro ⟨_ | ⟨l1, d⟩, out, i⟩ ⟨hout, hi, hr⟩ ih
   ·dsimp only at hout hi hr ih ⊢
    rw [hr] at hR
    by_cases hlt : i < ms.length
    ·have hp : i - 1 < ms.length := by omega
     have hmem := List.getElem_mem hlt
     have hC := s_CheckMessage g ms[i] (hls _ hmem)
     have hW := s_firstW g ms[0] ms[i - 1] ms[i] _ _ _ rfl rfl rfl
     rw [ms_get hp] at hR hr
     rw [reqG_drop hlt] at hR
     by_cases hz : msgE ms[0] ms[i - 1] ms[i] = 0
     ·rw [if_pos hz] at hR
      have hrd := fun (h2 : (linG ms[i].da out ms[i].ls).2 = 0) => by
       have e := hr
       rw [reqG_drop hlt, if_pos hz, if_pos h2] at e
       exact e
      rw [hz] at hW
      have hz' := hz
      unfold msgE at hz'
      rw [firstI_zero] at hz'
      have hzc := hz' (chkMs ms[i]) (by simp)
      have hk : ms[i].ki = REQ := Decidable.byContradiction fun hn => by have := hz' (if ms[i].ki = REQ then 0 else 13) (by simp); rw [if_neg hn] at this; cases this
      have hh : ms[i].ai = ms[0].ai ∧ ms[i].se = ms[0].se := Decidable.byContradiction fun hn => by have := hz' (if ms[i].ai = ms[0].ai ∧ ms[i].se = ms[0].se then 0 else 29) (by simp); rw [if_neg hn] at this; cases this
      have hd : ¬ ms[i].da < ms[i - 1].da := fun hn => by have := hz' (if ms[i].da < ms[i - 1].da then 11 else 0) (by simp); rw [if_pos hn] at this; cases this
      rw [decide_eq_true hk, decide_eq_true hh, decide_eq_false hd] at hW
      obtain ⟨ha, hs⟩ := hh
      have ok := plcOk_of ms[i].da ms[i].ls out none 0 (by have := (chkMs_ok.1 hzc).ok; rw [hk] at this; exact this) (fun y hy => by cases hy)
      generalize hres : linG ms[i].da out ms[i].ls = res at hR hrd
      have hin := fun {K} => s_lines0 g ms i ms[i] ms[i - 1] out hout (hls _ hmem) ok res hres (K := K)
      have hbad : ∀ e : Int, e ≠ 0 → res.2 = e → V.tup [LE [], I (i : Nat), I e] = R := fun e h1 h2 => by
       rw [if_neg (show ¬ res.2 = 0 by rw [h2]; exact h1), h2] at hR
       exact hR
      clear hz' hR ok hres
      repeat' ((conv => whnf); first
      | refine Ya ?_ | refine Yb ?_ | refine Yc ?_ | refine Yd ?_ | refine Ye ?_ | refine Yf ?_ | refine Yg ?_ | refine Yh ?_ | refine Yi rfl ?_ | refine Yj rfl ?_ | refine Yk rfl ?_ | refine Yl rfl ?_
       | (refine PickW.rec Mst.cells_length i rfl hlt ?_)
       | (refine PickW.rec Mst.cells_length (i - 1) (by omega) hp ?_)
       | (refine Pick.rec Mst.cells_length 0 rfl hpos rfl ?_)
       | (refine CallI.of (s_mwhen g _ _) ?_)
       | (refine CallI.of hC ?_)
       | (refine CallI.of hW ?_)
       | (refine Cmp.tt hk ?_)
       | (refine Cmp.tt ha ?_)
       | (refine Cmp.tt hs ?_)
       | (refine Cmp.ff hd ?_)
       | (refine LoopW.to (hin (fun l h1 h2 => ?_) (fun l l1 c h1 h2 => ?_) (fun l x e k h1 h2 => ?_) (fun l l1 c x e k h1 h2 => ?_)) rfl rfl)
       | fail)
      ·refine ⟨?_⟩
       have ih := ih (none, l, i + 1) ⟨h2, by dsimp only; omega, by dsimp only; rw [hrd (by rw [h1]), h1, Nat.add_sub_cancel, ms_get hlt]⟩ (by dsimp only; omega)
       dsimp only at ih
       repeat' ((conv => whnf); first
       | refine Ya ?_ | refine Yb ?_ | refine Yc ?_ | refine Yd ?_ | refine Ye ?_ | refine Yf ?_ | refine Yg ?_ | refine Yh ?_ | refine Yi rfl ?_ | refine Yj rfl ?_ | refine Yk rfl ?_ | refine Yl rfl ?_
        | (refine LoopW.to ih rfl rfl))
      ·refine ⟨?_⟩
       have ih := ih (some (l1, c), l, i + 1) ⟨h2, by dsimp only; omega, by dsimp only; rw [hrd (by rw [h1]), h1, Nat.add_sub_cancel, ms_get hlt]⟩ (by dsimp only; omega)
       dsimp only at ih
       repeat' ((conv => whnf); first
       | refine Ya ?_ | refine Yb ?_ | refine Yc ?_ | refine Yd ?_ | refine Ye ?_ | refine Yf ?_ | refine Yg ?_ | refine Yh ?_ | refine Yi rfl ?_ | refine Yj rfl ?_ | refine Yk rfl ?_ | refine Yl rfl ?_
        | (refine Mt _ (Nat.beq_refl _) ?_)
        | ((refine Mt _ ?_ ?_); focus ((repeat' (first | exact mI_hit rfl | exact mI_hit (Nat.beq_refl _) | ((refine mI_skip ?h ?_); (case h => first | rfl | assumption)))); done))
        | ((refine Mf _ ?_ ?_); focus ((repeat' (first | exact rfl | ((refine mI_skip ?h ?_); (case h => first | rfl | assumption)))); done))
        | (refine LoopW.to ih rfl rfl))
      ·refine ⟨?_⟩
       have hb := hbad e h1 h2
       repeat' ((conv => whnf); first
       | refine Ya ?_ | refine Yb ?_ | refine Yc ?_ | refine Yd ?_ | refine Ye ?_ | refine Yf ?_ | refine Yg ?_ | refine Yh ?_ | refine Yi rfl ?_ | refine Yj rfl ?_ | refine Yk rfl ?_ | refine Yl rfl ?_
        | (refine Cmp.ff h1 ?_)
        | (refine Ret.mk hb))
      ·refine ⟨?_⟩
       have hb := hbad e h1 h2
       repeat' ((conv => whnf); first
       | refine Ya ?_ | refine Yb ?_ | refine Yc ?_ | refine Yd ?_ | refine Ye ?_ | refine Yf ?_ | refine Yg ?_ | refine Yh ?_ | refine Yi rfl ?_ | refine Yj rfl ?_ | refine Yk rfl ?_ | refine Yl rfl ?_
        | (refine Cmp.ff h1 ?_)
        | (refine Ret.mk hb))
     ·rw [if_neg hz] at hR
      rw [← hR]
      generalize msgE ms[0] ms[i - 1] ms[i] = e at *
      clear ih hr hmem
      by_cases hk : ms[i].ki = REQ <;> by_cases ha : ms[i].ai = ms[0].ai <;> by_cases hs : ms[i].se = ms[0].se <;> by_cases hd : ms[i].da < ms[i - 1].da
      all_goals
       first | rw [decide_eq_true hk] at hW | rw [decide_eq_false hk] at hW
       first | rw [decide_eq_true (show ms[i].ai = ms[0].ai ∧ ms[i].se = ms[0].se from ⟨ha, hs⟩)] at hW | rw [decide_eq_false (show ¬ (ms[i].ai = ms[0].ai ∧ ms[i].se = ms[0].se) from fun h => ha h.1)] at hW | rw [decide_eq_false (show ¬ (ms[i].ai = ms[0].ai ∧ ms[i].se = ms[0].se) from fun h => hs h.2)] at hW
       first | rw [decide_eq_true hd] at hW | rw [decide_eq_false hd] at hW
       repeat' ((conv => whnf); first
       | refine Ya ?_ | refine Yb ?_ | refine Yc ?_ | refine Yd ?_ | refine Ye ?_ | refine Yf ?_ | refine Yg ?_ | refine Yh ?_ | refine Yi rfl ?_ | refine Yj rfl ?_ | refine Yk rfl ?_ | refine Yl rfl ?_
        | (refine PickW.rec Mst.cells_length i rfl hlt ?_)
        | (refine PickW.rec Mst.cells_length (i - 1) (by omega) hp ?_)
        | (refine Pick.rec Mst.cells_length 0 rfl hpos rfl ?_)
        | (refine CallI.of (s_mwhen g _ _) ?_)
        | (refine CallI.of hC ?_)
        | (refine CallI.of hW ?_)
        | (refine Cmp.tt hk ?_)
        | (refine Cmp.ff hk ?_)
        | (refine Cmp.tt ha ?_)
        | (refine Cmp.ff ha ?_)
        | (refine Cmp.tt hs ?_)
        | (refine Cmp.ff hs ?_)
        | (refine Cmp.tt hd ?_)
        | (refine Cmp.ff hd ?_)
        | (refine Cmp.ff hz ?_)
        | (refine Ret.mk rfl))
    ·obtain rfl : i = ms.length := by omega
     rw [List.drop_length, reqG] at hR
     rw [← hR]
     repeat' ((conv => whnf); first
     | refine Ya ?_ | refine Yb ?_ | refine Yc ?_ | refine Yd ?_ | refine Ye ?_ | refine Yf ?_ | refine Yg ?_ | refine Yh ?_ | refine Yi rfl ?_ | refine Yj rfl ?_ | refine Yk rfl ?_ | refine Yl rfl ?_
      | (rw [if_pos (⟨rfl, rfl⟩ : _ ∧ _)])
      | (refine Ret.mk rfl))
   ·dsimp only at hout hi hr ih ⊢
    rw [hr] at hR
    by_cases hlt : i < ms.length
    ·have hp : i - 1 < ms.length := by omega
     have hmem := List.getElem_mem hlt
     have hC := s_CheckMessage g ms[i] (hls _ hmem)
     have hW := s_firstW g ms[0] ms[i - 1] ms[i] _ _ _ rfl rfl rfl
     rw [ms_get hp] at hR hr
     rw [reqG_drop hlt] at hR
     by_cases hz : msgE ms[0] ms[i - 1] ms[i] = 0
     ·rw [if_pos hz] at hR
      have hrd := fun (h2 : (linG ms[i].da out ms[i].ls).2 = 0) => by
       have e := hr
       rw [reqG_drop hlt, if_pos hz, if_pos h2] at e
       exact e
      rw [hz] at hW
      have hz' := hz
      unfold msgE at hz'
      rw [firstI_zero] at hz'
      have hzc := hz' (chkMs ms[i]) (by simp)
      have hk : ms[i].ki = REQ := Decidable.byContradiction fun hn => by have := hz' (if ms[i].ki = REQ then 0 else 13) (by simp); rw [if_neg hn] at this; cases this
      have hh : ms[i].ai = ms[0].ai ∧ ms[i].se = ms[0].se := Decidable.byContradiction fun hn => by have := hz' (if ms[i].ai = ms[0].ai ∧ ms[i].se = ms[0].se then 0 else 29) (by simp); rw [if_neg hn] at this; cases this
      have hd : ¬ ms[i].da < ms[i - 1].da := fun hn => by have := hz' (if ms[i].da < ms[i - 1].da then 11 else 0) (by simp); rw [if_pos hn] at this; cases this
      rw [decide_eq_true hk, decide_eq_true hh, decide_eq_false hd] at hW
      obtain ⟨ha, hs⟩ := hh
      have ok := plcOk_of ms[i].da ms[i].ls out none 0 (by have := (chkMs_ok.1 hzc).ok; rw [hk] at this; exact this) (fun y hy => by cases hy)
      generalize hres : linG ms[i].da out ms[i].ls = res at hR hrd
      have hin := fun {K} => s_lines1 g ms i ms[i] ms[i - 1] l1 d out hout (hls _ hmem) ok res hres (K := K)
      have hbad : ∀ e : Int, e ≠ 0 → res.2 = e → V.tup [LE [], I (i : Nat), I e] = R := fun e h1 h2 => by
       rw [if_neg (show ¬ res.2 = 0 by rw [h2]; exact h1), h2] at hR
       exact hR
      clear hz' hR ok hres
      repeat' ((conv => whnf); first
      | refine Ya ?_ | refine Yb ?_ | refine Yc ?_ | refine Yd ?_ | refine Ye ?_ | refine Yf ?_ | refine Yg ?_ | refine Yh ?_ | refine Yi rfl ?_ | refine Yj rfl ?_ | refine Yk rfl ?_ | refine Yl rfl ?_
       | (refine Mt _ (Nat.beq_refl _) ?_)
       | ((refine Mt _ ?_ ?_); focus ((repeat' (first | exact mI_hit rfl | exact mI_hit (Nat.beq_refl _) | ((refine mI_skip ?h ?_); (case h => first | rfl | assumption)))); done))
       | ((refine Mf _ ?_ ?_); focus ((repeat' (first | exact rfl | ((refine mI_skip ?h ?_); (case h => first | rfl | assumption)))); done))
       | (refine PickW.rec Mst.cells_length i rfl hlt ?_)
       | (refine PickW.rec Mst.cells_length (i - 1) (by omega) hp ?_)
       | (refine Pick.rec Mst.cells_length 0 rfl hpos rfl ?_)
       | (refine CallI.of (s_mwhen g _ _) ?_)
       | (refine CallI.of hC ?_)
       | (refine CallI.of hW ?_)
       | (refine Cmp.tt hk ?_)
       | (refine Cmp.tt ha ?_)
       | (refine Cmp.tt hs ?_)
       | (refine Cmp.ff hd ?_)
       | (refine LoopW.to (hin (fun l h1 h2 => ?_) (fun l l2 c h1 h2 h3 => ?_) (fun l x e k h1 h2 => ?_) (fun l l2 c x e k h1 h2 h3 => ?_)) rfl rfl)
       | fail)
      ·refine ⟨?_⟩
       have ih := ih (some (l1, d), l, i + 1) ⟨h2, by dsimp only; omega, by dsimp only; rw [hrd (by rw [h1]), h1, Nat.add_sub_cancel, ms_get hlt]⟩ (by dsimp only; omega)
       dsimp only at ih
       repeat' ((conv => whnf); first
       | refine Ya ?_ | refine Yb ?_ | refine Yc ?_ | refine Yd ?_ | refine Ye ?_ | refine Yf ?_ | refine Yg ?_ | refine Yh ?_ | refine Yi rfl ?_ | refine Yj rfl ?_ | refine Yk rfl ?_ | refine Yl rfl ?_
        | (refine Mt _ (Nat.beq_refl _) ?_)
        | ((refine Mt _ ?_ ?_); focus ((repeat' (first | exact mI_hit rfl | exact mI_hit (Nat.beq_refl _) | ((refine mI_skip ?h ?_); (case h => first | rfl | assumption)))); done))
        | ((refine Mf _ ?_ ?_); focus ((repeat' (first | exact rfl | ((refine mI_skip ?h ?_); (case h => first | rfl | assumption)))); done))
        | (refine LoopW.to ih rfl rfl))
      ·refine ⟨?_⟩
       have b1 : Nat.beq d c = false := beq_ne (by omega)
       have b2 : Nat.beq c d = false := beq_ne (by omega)
       have ih := ih (some (l1, c), l, i + 1) ⟨h2, by dsimp only; omega, by dsimp only; rw [hrd (by rw [h1]), h1, Nat.add_sub_cancel, ms_get hlt]⟩ (by dsimp only; omega)
       dsimp only at ih
       repeat' ((conv => whnf); first
       | refine Ya ?_ | refine Yb ?_ | refine Yc ?_ | refine Yd ?_ | refine Ye ?_ | refine Yf ?_ | refine Yg ?_ | refine Yh ?_ | refine Yi rfl ?_ | refine Yj rfl ?_ | refine Yk rfl ?_ | refine Yl rfl ?_
        | (refine Mt _ (Nat.beq_refl _) ?_)
        | (refine Mf _ b1 ?_)
        | (refine Mf _ b2 ?_)
        | ((refine Mt _ ?_ ?_); focus ((repeat' (first | exact mI_hit rfl | exact mI_hit (Nat.beq_refl _) | ((refine mI_skip ?h ?_); (case h => first | rfl | assumption)))); done))
        | ((refine Mf _ ?_ ?_); focus ((repeat' (first | exact rfl | ((refine mI_skip ?h ?_); (case h => first | rfl | assumption)))); done))
        | (refine LoopW.to ih rfl rfl))
      ·refine ⟨?_⟩
       have hb := hbad e h1 h2
       repeat' ((conv => whnf); first
       | refine Ya ?_ | refine Yb ?_ | refine Yc ?_ | refine Yd ?_ | refine Ye ?_ | refine Yf ?_ | refine Yg ?_ | refine Yh ?_ | refine Yi rfl ?_ | refine Yj rfl ?_ | refine Yk rfl ?_ | refine Yl rfl ?_
        | (refine Cmp.ff h1 ?_)
        | (refine Ret.mk hb))
      ·refine ⟨?_⟩
       have hb := hbad e h1 h2
       repeat' ((conv => whnf); first
       | refine Ya ?_ | refine Yb ?_ | refine Yc ?_ | refine Yd ?_ | refine Ye ?_ | refine Yf ?_ | refine Yg ?_ | refine Yh ?_ | refine Yi rfl ?_ | refine Yj rfl ?_ | refine Yk rfl ?_ | refine Yl rfl ?_
        | (refine Cmp.ff h1 ?_)
        | (refine Ret.mk hb))
     ·rw [if_neg hz] at hR
      rw [← hR]
      generalize msgE ms[0] ms[i - 1] ms[i] = e at *
      clear ih hr hmem
      by_cases hk : ms[i].ki = REQ <;> by_cases ha : ms[i].ai = ms[0].ai <;> by_cases hs : ms[i].se = ms[0].se <;> by_cases hd : ms[i].da < ms[i - 1].da
      all_goals
       first | rw [decide_eq_true hk] at hW | rw [decide_eq_false hk] at hW
       first | rw [decide_eq_true (show ms[i].ai = ms[0].ai ∧ ms[i].se = ms[0].se from ⟨ha, hs⟩)] at hW | rw [decide_eq_false (show ¬ (ms[i].ai = ms[0].ai ∧ ms[i].se = ms[0].se) from fun h => ha h.1)] at hW | rw [decide_eq_false (show ¬ (ms[i].ai = ms[0].ai ∧ ms[i].se = ms[0].se) from fun h => hs h.2)] at hW
       first | rw [decide_eq_true hd] at hW | rw [decide_eq_false hd] at hW
       repeat' ((conv => whnf); first
       | refine Ya ?_ | refine Yb ?_ | refine Yc ?_ | refine Yd ?_ | refine Ye ?_ | refine Yf ?_ | refine Yg ?_ | refine Yh ?_ | refine Yi rfl ?_ | refine Yj rfl ?_ | refine Yk rfl ?_ | refine Yl rfl ?_
        | (refine Mt _ (Nat.beq_refl _) ?_)
        | ((refine Mt _ ?_ ?_); focus ((repeat' (first | exact mI_hit rfl | exact mI_hit (Nat.beq_refl _) | ((refine mI_skip ?h ?_); (case h => first | rfl | assumption)))); done))
        | ((refine Mf _ ?_ ?_); focus ((repeat' (first | exact rfl | ((refine mI_skip ?h ?_); (case h => first | rfl | assumption)))); done))
        | (refine PickW.rec Mst.cells_length i rfl hlt ?_)
        | (refine PickW.rec Mst.cells_length (i - 1) (by omega) hp ?_)
        | (refine Pick.rec Mst.cells_length 0 rfl hpos rfl ?_)
        | (refine CallI.of (s_mwhen g _ _) ?_)
        | (refine CallI.of hC ?_)
        | (refine CallI.of hW ?_)
        | (refine Cmp.tt hk ?_)
        | (refine Cmp.ff hk ?_)
        | (refine Cmp.tt ha ?_)
        | (refine Cmp.ff ha ?_)
        | (refine Cmp.tt hs ?_)
        | (refine Cmp.ff hs ?_)
        | (refine Cmp.tt hd ?_)
        | (refine Cmp.ff hd ?_)
        | (refine Cmp.ff hz ?_)
        | (refine Ret.mk rfl))
    ·obtain rfl : i = ms.length := by omega
     rw [List.drop_length, reqG] at hR
     rw [← hR]
     repeat' ((conv => whnf); first
     | refine Ya ?_ | refine Yb ?_ | refine Yc ?_ | refine Yd ?_ | refine Ye ?_ | refine Yf ?_ | refine Yg ?_ | refine Yh ?_ | refine Yi rfl ?_ | refine Yj rfl ?_ | refine Yk rfl ?_ | refine Yl rfl ?_
      | (rw [if_pos (⟨rfl, rfl⟩ : _ ∧ _)])
      | (refine Mt _ (Nat.beq_refl _) ?_)
      | ((refine Mt _ ?_ ?_); focus ((repeat' (first | exact mI_hit rfl | exact mI_hit (Nat.beq_refl _) | ((refine mI_skip ?h ?_); (case h => first | rfl | assumption)))); done))
      | ((refine Mf _ ?_ ?_); focus ((repeat' (first | exact rfl | ((refine mI_skip ?h ?_); (case h => first | rfl | assumption)))); done))
      | (refine Ret.mk rfl))
end
end Go.Proofs.YtlnlcdnpgjhaaabGreatDoor.Co
/-
 The changes between requests, sent behind the requests: the plain law.
-/
namespace Go.Proofs.YtlnlcdnpgjhaaabGreatDoor.Co
open Go Go.Evl
def nmsE (l : List Ent) : List (List UInt8) := l.map (·.rq.nm)
theorem plc_app {s : List UInt8} {e : Ent} {r : List Ent} (he : e.rq.nm = s) : ∀ l : List Ent, s ∉ nmsE l → plc s (l ++ e :: r) = some l.length
 | [], _ => by rw [List.nil_append, plc, if_pos he]; rfl
 | y :: q, h => by
  have h1 : ¬ y.rq.nm = s := fun e' => h (by simp [nmsE, e'])
  have h2 : s ∉ nmsE q := fun hm => h (List.mem_cons_of_mem _ hm)
  rw [List.cons_append, plc, if_neg h1, plc_app he q h2]
  rfl
theorem plc_no {s : List UInt8} : ∀ l : List Ent, s ∉ nmsE l → plc s l = none
 | [], _ => rfl
 | y :: q, h => by
  have h1 : ¬ y.rq.nm = s := fun e' => h (by simp [nmsE, e'])
  have h2 : s ∉ nmsE q := fun hm => h (List.mem_cons_of_mem _ hm)
  rw [plc, if_neg h1, plc_no q h2]
  rfl
theorem linG_app {da : Int} : ∀ (x y : List Lnt) (l l' : List Ent), linG da l x = (l', 0) → linG da l (x ++ y) = linG da l' y
 | [], y, l, l', h => by
  simp only [linG, Prod.mk.injEq] at h
  rw [List.nil_append, h.1]
 | a :: r, y, l, l', h => by
  rw [linG] at h
  rw [List.cons_append, linG]
  split at h
  ·rename_i hz
   rw [if_pos hz]
   exact linG_app r y _ _ h
  ·rename_i hz
   simp only [Prod.mk.injEq] at h
   exact absurd h.2 hz
theorem linG_one {da : Int} {l l' : List Ent} {x : Lnt} {r : List Lnt} (he : stpE l x = 0) (hl : stpL l x da = l') : linG da l (x :: r) = linG da l' r := by
 rw [linG, if_pos he, hl]
theorem lin_new (da : Int) : ∀ (q : List Rqt) (l : List Ent), (∀ x ∈ q, x.nm ∉ nmsE l) → (nmsQ q).Nodup → l.length + q.length ≤ 64 → linG da l (q.map fun x => ⟨[78], x⟩) = (l ++ q.map fun x => ⟨x, false, da⟩, 0)
 | [], l, _, _, _ => by simp [linG]
 | x :: r, l, h, hu, hl => by
  have hp := plc_no l (h x (List.mem_cons_self ..))
  have hc : (nmsQ (x :: r)) = x.nm :: nmsQ r := rfl
  rw [hc, List.nodup_cons] at hu
  rw [List.length_cons] at hl
  rw [List.map_cons, linG_one (l' := l ++ [⟨x, false, da⟩]) (by simp only [stpE, hp]; rw [if_pos (.inl trivial), if_neg (by omega)]) (by simp only [stpL, hp]; rfl)]
  refine (lin_new da r (l ++ [⟨x, false, da⟩]) (fun y hy hm => ?_) hu.2 (by simp; omega)).trans ?_
  rotate_left
  ·simp
  ·unfold nmsE at hm
   rw [List.map_append, List.mem_append] at hm
   rcases hm with hm | hm
   ·exact h y (List.mem_cons_of_mem _ hy) hm
   ·simp only [List.map_cons, List.map_nil, List.mem_singleton] at hm
    exact hu.1 (hm ▸ List.mem_map_of_mem hy)
abbrev e0 (x : Rqt) : Ent := ⟨x, false, 10⟩
theorem lin_del (a : List Rqt) (da : Int) : ∀ (r : List Rqt) (p : List Ent), (∀ x ∈ r, x.nm ∉ nmsE p) → (nmsQ r).Nodup → linG da (p ++ r.map e0) (r.flatMap (dL a)) = (p ++ (r.filter fun x => (twF a x).isSome).map e0, 0)
 | [], p, _, _ => by simp [linG]
 | x :: r, p, h, hu => by
  have hc : (nmsQ (x :: r)) = x.nm :: nmsQ r := rfl
  rw [hc, List.nodup_cons] at hu
  rw [List.flatMap_cons, List.map_cons]
  have hp := plc_app (e := e0 x) (r := r.map e0) rfl p (h x (List.mem_cons_self ..))
  cases hF : twF a x with
  | none =>
   have e : dL a x = [⟨[68], x⟩] := by unfold dL; rw [hF]
   rw [e, List.cons_append, List.nil_append, linG_one (l' := p ++ r.map e0)]
   ·rw [lin_del a da r p (fun y hy => h y (List.mem_cons_of_mem _ hy)) hu.2, List.filter_cons, hF]
    rfl
   ·simp only [stpE, hp]
    rw [if_neg (by decide), if_neg (by decide), if_pos (by simp)]
   ·simp only [stpL, hp]
    rw [if_neg (by decide), if_pos trivial, List.eraseIdx_append_of_length_le (Nat.le_refl _), Nat.sub_self]
    rfl
  | some o =>
   have e : dL a x = [] := by unfold dL; rw [hF]
   rw [e, List.nil_append]
   have := lin_del a da r (p ++ [e0 x]) (fun y hy hm => ?_) hu.2
   ·rw [List.append_assoc, List.singleton_append] at this
    rw [this, List.filter_cons, hF]
    simp
   ·unfold nmsE at hm
    rw [List.map_append, List.mem_append] at hm
    rcases hm with hm | hm
    ·exact h y (List.mem_cons_of_mem _ hy) hm
    ·simp only [List.map_cons, List.map_nil, List.mem_singleton] at hm
     exact hu.1 (hm ▸ List.mem_map_of_mem hy)
theorem twF_mem {l : List Rqt} {q o : Rqt} (h : twF l q = some o) : o ∈ l ∧ o.ca = q.ca ∧ o.nm = q.nm := by
 unfold twF at h
 have h1 := List.mem_of_find?_eq_some h
 have h2 := List.find?_some h
 simp only [twinB, Bool.and_eq_true, decide_eq_true_eq] at h2
 exact ⟨h1, h2⟩
theorem twF_of {l : List Rqt} {q o : Rqt} (ho : o ∈ l) (hc : o.ca = q.ca) (hn : o.nm = q.nm) : (twF l q).isSome := by
 unfold twF
 rw [List.find?_isSome]
 exact ⟨o, ho, by simp [twinB, hc, hn]⟩
def newE (a : List Rqt) (x : Rqt) : Ent :=
 match twF a x with
 | some o => if o = x then e0 x else ⟨o, false, 11⟩
 | none => e0 x
theorem newE_of {a : List Rqt} {x o : Rqt} (h : twF a x = some o) : (newE a x).rq = o ∧ (newE a x).hi = false := by
 unfold newE
 rw [h]
 by_cases e : o = x
 ·simp [e]
 ·simp [e]
theorem lin_chg (a : List Rqt) : ∀ (r : List Rqt) (p : List Ent), (∀ x ∈ r, (twF a x).isSome) → (∀ x ∈ r, x.nm ∉ nmsE p) → (nmsQ r).Nodup → linG 11 (p ++ r.map e0) (r.flatMap (cL a)) = (p ++ r.map (newE a), 0)
 | [], p, _, _, _ => by simp [linG]
 | x :: r, p, hs, h, hu => by
  have hc : (nmsQ (x :: r)) = x.nm :: nmsQ r := rfl
  rw [hc, List.nodup_cons] at hu
  obtain ⟨o, hF⟩ := Option.isSome_iff_exists.1 (hs x (List.mem_cons_self ..))
  have hm := twF_mem hF
  have hn := newE_of hF
  have ih := lin_chg a r (p ++ [newE a x]) (fun y hy => hs y (List.mem_cons_of_mem _ hy)) (fun y hy hy' => ?_) hu.2
  rw [List.append_assoc, List.singleton_append, List.append_assoc, List.singleton_append] at ih
  ·rw [List.flatMap_cons, List.map_cons, List.map_cons]
   by_cases e : o = x
   ·have e1 : cL a x = [] := by unfold cL; rw [hF]; exact if_pos e
    have e2 : newE a x = e0 x := by unfold newE; rw [hF]; exact if_pos e
    rw [e1, List.nil_append]
    rw [e2] at ih ⊢
    exact ih
   ·have e1 : cL a x = [⟨[67], x⟩, ⟨[82], o⟩] := by unfold cL; rw [hF]; exact if_neg e
    have e2 : newE a x = ⟨o, false, 11⟩ := by unfold newE; rw [hF]; exact if_neg e
    have hp := plc_app (e := e0 x) (r := r.map e0) rfl p (h x (List.mem_cons_self ..))
    rw [e1, List.cons_append, List.cons_append, List.nil_append]
    rw [linG_one (l' := p ++ e0 x :: r.map e0), linG_one (l' := p ++ newE a x :: r.map e0)]
    ·exact ih
    ·simp only [stpE, hm.2.2, hp]
     rw [if_neg (by decide), if_pos trivial]
    ·simp only [stpL, hm.2.2, hp]
     rw [if_pos trivial, List.set_append_right _ _ (Nat.le_refl _), Nat.sub_self, List.set_cons_zero, e2]
     simp
    ·simp only [stpE, hp]
     rw [if_neg (by decide), if_neg (by decide), if_pos (by simp)]
    ·simp only [stpL, hp]
     rw [if_neg (by decide), if_neg (by decide)]
  ·unfold nmsE at hy'
   rw [List.map_append, List.mem_append] at hy'
   rcases hy' with hy' | hy'
   ·exact h y (List.mem_cons_of_mem _ hy) hy'
   ·simp only [List.map_cons, List.map_nil, List.mem_singleton] at hy'
    rw [hn.1, hm.2.2] at hy'
    exact hu.1 (hy' ▸ List.mem_map_of_mem hy)
theorem cL_filter (a : List Rqt) : ∀ b : List Rqt, b.flatMap (cL a) = (b.filter fun x => (twF a x).isSome).flatMap (cL a)
 | [] => rfl
 | x :: r => by
  rw [List.flatMap_cons, List.filter_cons, cL_filter a r]
  cases hF : twF a x with
  | none =>
   have e : cL a x = [] := by unfold cL; rw [hF]
   rw [e, List.nil_append]
   rfl
  | some o => rfl
theorem nL_filter (b : List Rqt) : ∀ a : List Rqt, a.flatMap (nL b) = (a.filter fun x => (twF b x).isNone).map fun x => ⟨[78], x⟩
 | [] => rfl
 | x :: r => by
  rw [List.flatMap_cons, List.filter_cons, nL_filter b r]
  unfold nL
  cases hF : twF b x with
  | none => rfl
  | some o => rfl
def leadL (b a : List Rqt) : List Ent := (b.filter fun x => (twF a x).isSome).map (newE a) ++ (a.filter fun x => (twF b x).isNone).map fun x => ⟨x, false, 11⟩
theorem nodup_filter {l : List Rqt} {p : Rqt → Bool} (h : (nmsQ l).Nodup) : (nmsQ (l.filter p)).Nodup :=
 h.sublist (List.filter_sublist.map _)
theorem len_sub {α : Type} [DecidableEq α] : ∀ (l m : List α), l.Nodup → (∀ x ∈ l, x ∈ m) → l.length ≤ m.length
 | [], _, _, _ => Nat.zero_le _
 | x :: r, m, hu, h => by
  rw [List.nodup_cons] at hu
  have hx := h x (List.mem_cons_self ..)
  have := len_sub r (m.erase x) hu.2 fun y hy => (List.mem_erase_of_ne (fun e => hu.1 (by rw [← e]; exact hy))).2 (h y (List.mem_cons_of_mem _ hy))
  rw [List.length_erase_of_mem hx] at this
  have := List.length_pos_of_mem hx
  rw [List.length_cons]
  omega
theorem part_len {α : Type} (p : α → Bool) : ∀ l : List α, (l.filter p).length + (l.filter fun x => !p x).length = l.length
 | [] => rfl
 | x :: r => by
  have := part_len p r
  rw [List.filter_cons, List.filter_cons]
  cases p x
  ·simp; omega
  ·simp; omega
theorem nm_eq {l : List Rqt} (hu : (nmsQ l).Nodup) {x y : Rqt} (hx : x ∈ l) (hy : y ∈ l) (h : x.nm = y.nm) : x = y := by
 obtain ⟨i, hi, rfl⟩ := List.getElem_of_mem hx
 obtain ⟨j, hj, rfl⟩ := List.getElem_of_mem hy
 have := nm_at hu hi hj h
 subst this
 rfl
theorem lead_len {b a : List Rqt} (hb : (nmsQ b).Nodup) (ha : (nmsQ a).Nodup) : (leadL b a).length = a.length := by
 have h1 := len_sub _ (nmsQ (a.filter fun x => (twF b x).isSome)) (nodup_filter (p := fun x => (twF a x).isSome) hb) fun s hs => by
  obtain ⟨x, hx, rfl⟩ := List.mem_map.1 hs
  rw [List.mem_filter] at hx
  obtain ⟨o, ho⟩ := Option.isSome_iff_exists.1 hx.2
  have hm := twF_mem ho
  exact List.mem_map.2 ⟨o, List.mem_filter.2 ⟨hm.1, twF_of hx.1 hm.2.1.symm hm.2.2.symm⟩, hm.2.2⟩
 have h2 := len_sub _ (nmsQ (b.filter fun x => (twF a x).isSome)) (nodup_filter (p := fun x => (twF b x).isSome) ha) fun s hs => by
  obtain ⟨x, hx, rfl⟩ := List.mem_map.1 hs
  rw [List.mem_filter] at hx
  obtain ⟨o, ho⟩ := Option.isSome_iff_exists.1 hx.2
  have hm := twF_mem ho
  exact List.mem_map.2 ⟨o, List.mem_filter.2 ⟨hm.1, twF_of hx.1 hm.2.1.symm hm.2.2.symm⟩, hm.2.2⟩
 unfold nmsQ at h1 h2
 rw [List.length_map, List.length_map] at h1 h2
 have h3 := part_len (fun x => (twF b x).isSome) a
 unfold leadL
 rw [List.length_append, List.length_map, List.length_map]
 have e : (a.filter fun x => (twF b x).isNone) = a.filter fun x => !(twF b x).isSome := by
  congr 1
  funext x
  cases twF b x <;> rfl
 rw [e]
 omega
theorem lead_mem {b a : List Rqt} {e : Ent} (h : e ∈ leadL b a) : e.rq ∈ a ∧ e.hi = false := by
 unfold leadL at h
 rw [List.mem_append] at h
 rcases h with h | h
 ·obtain ⟨x, hx, rfl⟩ := List.mem_map.1 h
  rw [List.mem_filter] at hx
  obtain ⟨o, ho⟩ := Option.isSome_iff_exists.1 hx.2
  have hn := newE_of ho
  exact ⟨hn.1 ▸ (twF_mem ho).1, hn.2⟩
 ·obtain ⟨x, hx, rfl⟩ := List.mem_map.1 h
  exact ⟨(List.mem_filter.1 hx).1, rfl⟩
theorem lead_quiet {b a : List Rqt} (hb : (nmsQ b).Nodup) (ha : (nmsQ a).Nodup) {q : Rqt} (h1 : q ∈ b) (h2 : q ∈ a) : ∀ x ∈ chgL b a, ¬ x.rq.nm = q.nm := by
 intro x hx hn
 unfold chgL at hx
 rw [List.mem_append, List.mem_append, List.mem_flatMap, List.mem_flatMap, List.mem_flatMap] at hx
 rcases hx with (⟨y, hy, hx⟩ | ⟨y, hy, hx⟩) | ⟨y, hy, hx⟩
 ·unfold dL at hx
  split at hx
  ·rename_i hF
   simp only [List.mem_singleton] at hx
   subst hx
   obtain rfl := nm_eq hb hy h1 hn
   have := twF_of (l := a) h2 rfl rfl
   rw [hF] at this
   cases this
  ·cases hx
 ·unfold cL at hx
  split at hx
  ·cases hx
  ·rename_i o hF
   have hm := twF_mem hF
   by_cases e : o = y
   ·rw [if_pos e] at hx; cases hx
   ·rw [if_neg e] at hx
    simp only [List.mem_cons, List.not_mem_nil, or_false] at hx
    have hq : y.nm = q.nm := by
     rcases hx with rfl | rfl
     ·exact hn
     ·exact hm.2.2.symm.trans hn
    obtain rfl := nm_eq hb hy h1 hq
    exact e (nm_eq ha hm.1 h2 hm.2.2)
 ·unfold nL at hx
  split at hx
  ·rename_i hF
   simp only [List.mem_singleton] at hx
   subst hx
   obtain rfl := nm_eq ha hy h2 hn
   have := twF_of (l := b) h1 rfl rfl
   rw [hF] at this
   cases this
  ·cases hx
theorem lin_lead {b a : List Rqt} (hb : (nmsQ b).Nodup) (ha : (nmsQ a).Nodup) (hl : b.length + a.length ≤ 64) : linG 11 (b.map e0) (chgL b a) = (leadL b a, 0) := by
 have hfb := List.length_filter_le (fun x => (twF a x).isSome) b
 have hfa := List.length_filter_le (fun x => (twF b x).isNone) a
 have h1 := lin_del a 11 b [] (fun _ _ h => by cases h) hb
 rw [List.nil_append, List.nil_append] at h1
 have h2 := lin_chg a (b.filter fun x => (twF a x).isSome) [] (fun x hx => (List.mem_filter.1 hx).2) (fun _ _ h => by cases h) (nodup_filter hb)
 rw [List.nil_append, List.nil_append, ← cL_filter] at h2
 have h3 := lin_new 11 (a.filter fun x => (twF b x).isNone) ((b.filter fun x => (twF a x).isSome).map (newE a)) (fun x hx hm => ?_) (nodup_filter ha) (by rw [List.length_map]; omega)
 ·unfold chgL
  rw [List.append_assoc, linG_app _ _ _ _ h1, linG_app _ _ _ _ h2, nL_filter, h3]
  rfl
 ·unfold nmsE at hm
  rw [List.map_map] at hm
  obtain ⟨y, hy, he⟩ := List.mem_map.1 hm
  rw [List.mem_filter] at hx hy
  obtain ⟨o, ho⟩ := Option.isSome_iff_exists.1 hy.2
  have hn := newE_of ho
  have hm' := twF_mem ho
  have he : o.nm = x.nm := by rw [← hn.1]; exact he
  obtain rfl := nm_eq ha hm'.1 hx.1 he
  have := twF_of (l := b) hy.1 hm'.2.1.symm hm'.2.2.symm
  cases hq : twF b o with
  | none => rw [hq] at this; cases this
  | some _ => have := hx.2; rw [hq] at this; cases this
inductive Blk : List Lnt → Prop where
 | no : Blk []
 | new (x : Rqt) : chkRq x = 0 → Blk [⟨[78], x⟩]
 | del (x : Rqt) : chkRq x = 0 → Blk [⟨[68], x⟩]
 | chg (x o : Rqt) : chkRq x = 0 → chkRq o = 0 → twinB x o = true → Blk [⟨[67], x⟩, ⟨[82], o⟩]
theorem lnE_zero {p : Option Lnt} {s : List UInt8} {q : Rqt} (h1 : chkRq q = 0) (h0 : actB s = true) (h2 : actK s = REQ) (h3 : ((openO p || decide (s = [82])) && !(openO p && decide (s = [82]) && twinO ⟨s, q⟩ p)) = false) : lnE REQ p ⟨s, q⟩ = 0 := by
 unfold lnE
 rw [firstI_zero]
 intro e he
 simp only [List.mem_cons, List.not_mem_nil, or_false] at he
 rcases he with rfl | rfl | rfl
 ·rw [chkLn_eq]; exact (if_pos h0).trans h1
 ·exact if_pos h2
 ·rw [h3]; rfl
theorem chk_blk : ∀ (bs : List (List Lnt)) (p : Option Lnt) (i : Nat), openO p = false → (∀ b ∈ bs, Blk b) → chkLs REQ p i bs.flatten = (0, 0)
 | [], p, i, hp, _ => by
  rw [List.flatten_nil, chkLs, hp]; rfl
 | b :: r, p, i, hp, h => by
  have hb := h b (List.mem_cons_self ..)
  have ih := fun p i hp => chk_blk r p i hp fun x hx => h x (List.mem_cons_of_mem _ hx)
  rw [List.flatten_cons]
  cases hb with
  | no => exact ih p i hp
  | new x hx =>
   rw [List.cons_append, List.nil_append, chkLs, if_pos ?_]
   ·exact ih _ _ rfl
   ·exact lnE_zero hx (by decide) (by decide) (by rw [hp]; rfl)
  | del x hx =>
   rw [List.cons_append, List.nil_append, chkLs, if_pos ?_]
   ·exact ih _ _ rfl
   ·exact lnE_zero hx (by decide) (by decide) (by rw [hp]; rfl)
  | chg x o hx ho ht =>
   rw [List.cons_append, List.cons_append, List.nil_append, chkLs, if_pos ?_, chkLs, if_pos ?_]
   ·exact ih _ _ rfl
   ·exact lnE_zero ho (by decide) (by decide) (by show (true && !(true && twinB x o)) = false; rw [ht]; rfl)
   ·exact lnE_zero hx (by decide) (by decide) (by rw [hp]; rfl)
theorem chk_chg {b a : List Rqt} (hb : ∀ x ∈ b, chkRq x = 0) (ha : ∀ x ∈ a, chkRq x = 0) : chkLs REQ none 0 (chgL b a) = (0, 0) := by
 have e : chgL b a = (b.map (dL a) ++ b.map (cL a) ++ a.map (nL b)).flatten := by
  unfold chgL
  simp only [List.flatMap, List.flatten_append]
 rw [e]
 refine chk_blk _ none 0 rfl fun x hx => ?_
 simp only [List.mem_append, List.mem_map] at hx
 rcases hx with (⟨y, hy, rfl⟩ | ⟨y, hy, rfl⟩) | ⟨y, hy, rfl⟩
 ·unfold dL
  split
  ·exact .del y (hb y hy)
  ·exact .no
 ·unfold cL
  split
  ·exact .no
  ·rename_i o hF
   have hm := twF_mem hF
   split
   ·exact .no
   ·exact .chg y o (hb y hy) (ha o hm.1) (by simp [twinB, hm.2.1, hm.2.2])
 ·unfold nL
  split
  ·exact .new y (ha y hy)
  ·exact .no
theorem chk_new {b : List Rqt} (hb : ∀ x ∈ b, chkRq x = 0) : chkLs REQ none 0 (b.map fun x => ⟨[78], x⟩) = (0, 0) := by
 have e : (b.map fun x => (⟨[78], x⟩ : Lnt)) = (b.map fun x => [(⟨[78], x⟩ : Lnt)]).flatten := by
  induction b with
  | nil => rfl
  | cons x r ih => rw [List.map_cons, List.map_cons, List.flatten_cons, ih fun y hy => hb y (List.mem_cons_of_mem _ hy)]; rfl
 rw [e]
 refine chk_blk _ none 0 rfl fun x hx => ?_
 obtain ⟨y, hy, rfl⟩ := List.mem_map.1 hx
 exact .new y (hb y hy)
end Go.Proofs.YtlnlcdnpgjhaaabGreatDoor.Co
/-
 Messages: Changed, by the program.
-/
namespace Go.Proofs.YtlnlcdnpgjhaaabGreatDoor.Co
open Go Go.Evl
set_option maxRecDepth 100000
section
variable {E : Oracle} (g : Good E)
include g
set_option maxHeartbeats 16000000 in
theorem s_Changed (b a : List Rqt) (hb : b.length ≤ 1000000) (ha : a.length ≤ 1000000) :
  (firstI [chkRqs b, chkRqs a] ≠ 0 → Fc E n_message_Changed [LQ b, LQ a] (.tup [LL [], I (firstI [chkRqs b, chkRqs a])])) ∧
  (firstI [chkRqs b, chkRqs a] = 0 → Fc E n_message_Changed [LQ b, LQ a] (if 64 < (chgL b a).length then .tup [LL [], I 5] else .tup [LL (chgL b a), I 0])) := by
 have h1 := s_checkRequests g b hb
 have h2 := s_checkRequests g a ha
 refine ⟨fun hz => ?_, fun hz => ?_⟩
 ·refine g.fn code_message_Changed rfl ?_
  repeat' ((conv => whnf); first
  | refine Ya ?_ | refine Yb ?_ | refine Yc ?_ | refine Yd ?_ | refine Ye ?_ | refine Yf ?_ | refine Yg ?_ | refine Yh ?_ | refine Yi rfl ?_ | refine Yj rfl ?_ | refine Yk rfl ?_ | refine Yl rfl ?_
   | (apply CallI.of; assumption)
   | (refine CallI.of (s_mfirst2 g _ _) ?_)
   | (refine Cmp.ff hz ?_)
   | (refine Ret.mk rfl))
 ·generalize hR : (if 64 < (chgL b a).length then V.tup [LL [], I 5] else .tup [LL (chgL b a), I 0]) = R
  refine g.fn code_message_Changed rfl ?_
  repeat' ((conv => whnf); first
  | refine Ya ?_ | refine Yb ?_ | refine Yc ?_ | refine Yd ?_ | refine Ye ?_ | refine Yf ?_ | refine Yg ?_ | refine Yh ?_ | refine Yi rfl ?_ | refine Yj rfl ?_ | refine Yk rfl ?_ | refine Yl rfl ?_
   | (apply CallI.of; assumption)
   | (refine CallI.of (s_mfirst2 g _ _) ?_)
   | (refine Cmp.tt hz ?_)
   | (refine In.enter g.lim rfl code_message_filtered_api_Request_message_Line ?_))
  clear h1 h2 hz
  refine LoopW.to (LoopW.up g (fun k => [(1, .fn n_message_Changed_2 [] [.ptr ⟨0, 7, 0⟩ 0 0, .ptr ⟨0, 3, 0⟩ 0 0]), (5, .ref ⟨1, 5, 0⟩ 0 ((b.take k).flatMap (dL a)).length ((b.take k).flatMap (dL a)).length), (10, LQ b), (11, I b.length), (12, I k)]) (fun k => [(⟨0, 2, 0⟩, .cells ty_Lapi_Request [LQ b]), (⟨0, 3, 0⟩, .cells ty_Lapi_Request [LQ a]), (⟨0, 4, 0⟩, .row false ty_message_Line 14 0 []), (⟨0, 7, 0⟩, .cells ty_func_Lapi_Request_api_Request_api_Request_bool [.fn n_message_Changed_1 [] []]), (⟨1, 4, 0⟩, .row false ty_message_Line 14 0 []), (⟨1, 5, 0⟩, .row false ty_message_Line 14 ((b.take k).flatMap (dL a)).length (((b.take k).flatMap (dL a)).flatMap Lnt.cells))]) b.length (fun k hk ih => ?_) 0 (Nat.zero_le _)) rfl rfl
  by_cases hlt : k < b.length
  ·clear hR
   have hT := s_twin g a b[k] ha
   have ih := ih hlt
   rw [fm_take (dL a) b k hlt] at ih
   have hX := take_len (dL_len a) b k
   generalize (b.take k).flatMap (dL a) = X at *
   have hfl := flatR_length Lnt.cells 14 Lnt.cells_length X
   cases hF : twF a b[k] with
   | none =>
    have hq := hT.1 hF
    rw [show dL a b[k] = [⟨[68], b[k]⟩] by unfold dL; rw [hF], List.flatMap_append, List.length_append] at ih
    repeat' ((conv => whnf); first
    | refine Ya ?_ | refine Yb ?_ | refine Yc ?_ | refine Yd ?_ | refine Ye ?_ | refine Yf ?_ | refine Yg ?_ | refine Yh ?_ | refine Yi rfl ?_ | refine Yj rfl ?_ | refine Yk rfl ?_ | refine Yl rfl ?_
     | (refine PickW.rec Rqt.cells_length k rfl hlt ?_)
     | (refine In.enter g.lim rfl code_message_Changed_2 ?_)
     | (refine CallI.of hq ?_)
     | (refine Need.mk (by simp only [List.length_cons, List.length_nil]; omega) ?_)
     | (refine LoopW.to ih rfl rfl))
   | some o =>
    have hq := hT.2 o hF
    rw [show dL a b[k] = [] by unfold dL; rw [hF], List.append_nil] at ih
    repeat' ((conv => whnf); first
    | refine Ya ?_ | refine Yb ?_ | refine Yc ?_ | refine Yd ?_ | refine Ye ?_ | refine Yf ?_ | refine Yg ?_ | refine Yh ?_ | refine Yi rfl ?_ | refine Yj rfl ?_ | refine Yk rfl ?_ | refine Yl rfl ?_
     | (refine PickW.rec Rqt.cells_length k rfl hlt ?_)
     | (refine In.enter g.lim rfl code_message_Changed_2 ?_)
     | (refine CallI.of hq ?_)
     | (refine LoopW.to ih rfl rfl))
  ·obtain rfl : k = b.length := by omega
   clear ih
   rw [List.take_length]
   have hD := one_len 1 (dL_len a) b
   unfold chgL at hR
   generalize b.flatMap (dL a) = Dx at *
   repeat' ((conv => whnf); first
   | refine Ya ?_ | refine Yb ?_ | refine Yc ?_ | refine Yd ?_ | refine Ye ?_ | refine Yf ?_ | refine Yg ?_ | refine Yh ?_ | refine Yi rfl ?_ | refine Yj rfl ?_ | refine Yk rfl ?_ | refine Yl rfl ?_
    | (refine Some'.row (by decide) rfl ?_))
   refine LoopW.to (LoopW.up g (fun k => [(2, .ptr ⟨0, 2, 0⟩ 0 0), (3, .ptr ⟨0, 3, 0⟩ 0 0), (7, .ptr ⟨0, 7, 0⟩ 0 0), (8, .ref ⟨0, 24, 0⟩ 0 (catR Dx ((b.take k).flatMap (cL a))).length (catR Dx ((b.take k).flatMap (cL a))).length), (25, LQ b), (26, I b.length), (27, I k)]) (fun k => [(⟨0, 2, 0⟩, .cells ty_Lapi_Request [LQ b]), (⟨0, 3, 0⟩, .cells ty_Lapi_Request [LQ a]), (⟨0, 4, 0⟩, .row false ty_message_Line 14 0 []), (⟨0, 7, 0⟩, .cells ty_func_Lapi_Request_api_Request_api_Request_bool [.fn n_message_Changed_1 [] []]), (⟨0, 24, 0⟩, .row false ty_message_Line 14 (catR Dx ((b.take k).flatMap (cL a))).length ((catR Dx ((b.take k).flatMap (cL a))).flatMap Lnt.cells))]) b.length (fun k hk ih => ?_) 0 (Nat.zero_le _)) rfl rfl
   by_cases hlt : k < b.length
   ·clear hR
    have hT := s_twin g a b[k] ha
    have ih := ih hlt
    rw [catR_succ Dx (cL a) hlt] at ih
    have hX : (catR Dx ((b.take k).flatMap (cL a))).length ≤ 3000000 := by
     have := take_len (cL_len a) b k
     rw [catR_eq, List.length_append]
     omega
    generalize catR Dx ((b.take k).flatMap (cL a)) = X at *
    have hfl := flatR_length Lnt.cells 14 Lnt.cells_length X
    cases hF : twF a b[k] with
    | none =>
     have hq := hT.1 hF
     rw [show cL a b[k] = [] by unfold cL; rw [hF], List.append_nil] at ih
     repeat' ((conv => whnf); first
     | refine Ya ?_ | refine Yb ?_ | refine Yc ?_ | refine Yd ?_ | refine Ye ?_ | refine Yf ?_ | refine Yg ?_ | refine Yh ?_ | refine Yi rfl ?_ | refine Yj rfl ?_ | refine Yk rfl ?_ | refine Yl rfl ?_
      | (refine PickW.rec Rqt.cells_length k rfl hlt ?_)
      | (refine CallI.of hq ?_)
      | (refine LoopW.to ih rfl rfl))
    | some o =>
     have hq := hT.2 o hF
     by_cases he : o = b[k]
     ·rw [show cL a b[k] = [] by unfold cL; rw [hF]; exact if_pos he, List.append_nil] at ih
      have hp : o.nm = b[k].nm ∧ o.ca = b[k].ca ∧ o.ki = b[k].ki ∧ o.te = b[k].te ∧ o.pa = b[k].pa ∧ o.li = b[k].li ∧ o.fr = b[k].fr ∧ o.to = b[k].to ∧ o.da = b[k].da ∧ o.mi = b[k].mi ∧ o.se = b[k].se ∧ o.si = b[k].si ∧ o.no = b[k].no := by
       rw [he]
       exact ⟨rfl, rfl, rfl, rfl, rfl, rfl, rfl, rfl, rfl, rfl, rfl, rfl, rfl⟩
      repeat' ((conv => whnf); first
      | refine Ya ?_ | refine Yb ?_ | refine Yc ?_ | refine Yd ?_ | refine Ye ?_ | refine Yf ?_ | refine Yg ?_ | refine Yh ?_ | refine Yi rfl ?_ | refine Yj rfl ?_ | refine Yk rfl ?_ | refine Yl rfl ?_
       | (refine PickW.rec Rqt.cells_length k rfl hlt ?_)
       | (refine CallI.of hq ?_)
       | (refine Cmp.tt hp ?_)
       | (refine LoopW.to ih rfl rfl))
     ·rw [show cL a b[k] = [⟨[67], b[k]⟩, ⟨[82], o⟩] by unfold cL; rw [hF]; exact if_neg he, List.flatMap_append, List.length_append] at ih
      repeat' ((conv => whnf); first
      | refine Ya ?_ | refine Yb ?_ | refine Yc ?_ | refine Yd ?_ | refine Ye ?_ | refine Yf ?_ | refine Yg ?_ | refine Yh ?_ | refine Yi rfl ?_ | refine Yj rfl ?_ | refine Yk rfl ?_ | refine Yl rfl ?_
       | (refine PickW.rec Rqt.cells_length k rfl hlt ?_)
       | (refine CallI.of hq ?_)
       | (refine Cmp.ff (fun h => he (rq_ext h)) ?_)
       | (refine Need.mk (by simp only [List.length_cons, List.length_nil]; omega) ?_)
       | (refine LoopW.to ih rfl rfl))
   ·obtain rfl : k = b.length := by omega
    clear ih
    rw [List.take_length]
    have hP : (Dx ++ b.flatMap (cL a)).length ≤ 3000000 := by
     have := one_len 2 (cL_len a) b
     rw [List.length_append]
     omega
    rw [catR_eq]
    generalize Dx ++ b.flatMap (cL a) = Px at *
    repeat' ((conv => whnf); first
    | refine Ya ?_ | refine Yb ?_ | refine Yc ?_ | refine Yd ?_ | refine Ye ?_ | refine Yf ?_ | refine Yg ?_ | refine Yh ?_ | refine Yi rfl ?_ | refine Yj rfl ?_ | refine Yk rfl ?_ | refine Yl rfl ?_
     | (refine In.enter g.lim rfl code_message_filtered_api_Request_message_Line ?_))
    refine LoopW.to (LoopW.up g (fun k => [(1, .fn n_message_Changed_3 [] [.ptr ⟨0, 7, 0⟩ 0 0, .ptr ⟨0, 2, 0⟩ 0 0]), (5, .ref ⟨1, 5, 0⟩ 0 ((a.take k).flatMap (nL b)).length ((a.take k).flatMap (nL b)).length), (10, LQ a), (11, I a.length), (12, I k)]) (fun k => [(⟨0, 2, 0⟩, .cells ty_Lapi_Request [LQ b]), (⟨0, 3, 0⟩, .cells ty_Lapi_Request [LQ a]), (⟨0, 4, 0⟩, .row false ty_message_Line 14 0 []), (⟨0, 7, 0⟩, .cells ty_func_Lapi_Request_api_Request_api_Request_bool [.fn n_message_Changed_1 [] []]), (⟨0, 24, 0⟩, .row false ty_message_Line 14 Px.length (Px.flatMap Lnt.cells)), (⟨1, 4, 0⟩, .row false ty_message_Line 14 0 []), (⟨1, 5, 0⟩, .row false ty_message_Line 14 ((a.take k).flatMap (nL b)).length (((a.take k).flatMap (nL b)).flatMap Lnt.cells))]) a.length (fun k hk ih => ?_) 0 (Nat.zero_le _)) rfl rfl
    by_cases hlt : k < a.length
    ·clear hR
     have hT := s_twin g b a[k] hb
     have ih := ih hlt
     rw [fm_take (nL b) a k hlt] at ih
     have hX := take_len (nL_len b) a k
     generalize (a.take k).flatMap (nL b) = X at *
     have hfl := flatR_length Lnt.cells 14 Lnt.cells_length X
     cases hF : twF b a[k] with
     | none =>
      have hq := hT.1 hF
      rw [show nL b a[k] = [⟨[78], a[k]⟩] by unfold nL; rw [hF], List.flatMap_append, List.length_append] at ih
      repeat' ((conv => whnf); first
      | refine Ya ?_ | refine Yb ?_ | refine Yc ?_ | refine Yd ?_ | refine Ye ?_ | refine Yf ?_ | refine Yg ?_ | refine Yh ?_ | refine Yi rfl ?_ | refine Yj rfl ?_ | refine Yk rfl ?_ | refine Yl rfl ?_
       | (refine PickW.rec Rqt.cells_length k rfl hlt ?_)
       | (refine In.enter g.lim rfl code_message_Changed_3 ?_)
       | (refine CallI.of hq ?_)
       | (refine Need.mk (by simp only [List.length_cons, List.length_nil]; omega) ?_)
       | (refine LoopW.to ih rfl rfl))
     | some o =>
      have hq := hT.2 o hF
      rw [show nL b a[k] = [] by unfold nL; rw [hF], List.append_nil] at ih
      repeat' ((conv => whnf); first
      | refine Ya ?_ | refine Yb ?_ | refine Yc ?_ | refine Yd ?_ | refine Ye ?_ | refine Yf ?_ | refine Yg ?_ | refine Yh ?_ | refine Yi rfl ?_ | refine Yj rfl ?_ | refine Yk rfl ?_ | refine Yl rfl ?_
       | (refine PickW.rec Rqt.cells_length k rfl hlt ?_)
       | (refine In.enter g.lim rfl code_message_Changed_3 ?_)
       | (refine CallI.of hq ?_)
       | (refine LoopW.to ih rfl rfl))
    ·obtain rfl : k = a.length := by omega
     clear ih
     rw [List.take_length]
     have hN := one_len 1 (nL_len b) a
     generalize a.flatMap (nL b) = Nx at *
     have f1 := flatR_length Lnt.cells 14 Lnt.cells_length Px
     have f2 := flatR_length Lnt.cells 14 Lnt.cells_length Nx
     rw [List.length_append] at hR
     by_cases hn : 64 < Px.length + Nx.length
     ·rw [if_pos hn] at hR
      rw [← hR]
      repeat' ((conv => whnf); first
      | refine Ya ?_ | refine Yb ?_ | refine Yc ?_ | refine Yd ?_ | refine Ye ?_ | refine Yf ?_ | refine Yg ?_ | refine Yh ?_ | refine Yi rfl ?_ | refine Yj rfl ?_ | refine Yk rfl ?_ | refine Yl rfl ?_
       | (rw [if_pos (⟨rfl, rfl⟩ : _ ∧ _)])
       | (refine Need.mk ⟨rfl, rfl, rfl, rfl, rfl, f2, by show (Px.length + Nx.length) * 168 ≤ _; omega, by omega⟩ ?_)
       | (refine Ret.mk rfl))
     ·rw [if_neg hn] at hR
      rw [← hR]
      repeat' ((conv => whnf); first
      | refine Ya ?_ | refine Yb ?_ | refine Yc ?_ | refine Yd ?_ | refine Ye ?_ | refine Yf ?_ | refine Yg ?_ | refine Yh ?_ | refine Yi rfl ?_ | refine Yj rfl ?_ | refine Yk rfl ?_ | refine Yl rfl ?_
       | (rw [if_pos (⟨rfl, rfl⟩ : _ ∧ _)])
       | (refine Need.mk ⟨rfl, rfl, rfl, rfl, rfl, f2, by show (Px.length + Nx.length) * 168 ≤ _; omega, by omega⟩ ?_)
       | (refine Ret.mk ?_))
      show _ = V.tup [V.d (.list (Px ++ Nx).length ((Px ++ Nx).flatMap Lnt.cells)), I 0]
      rw [List.flatMap_append, List.length_append]
end
end Go.Proofs.YtlnlcdnpgjhaaabGreatDoor.Co
/-
 Requests as a law's parameters.
-/
namespace Go.Proofs.YtlnlcdnpgjhaaabGreatDoor.Co
open Go Go.Evl
set_option maxRecDepth 100000
theorem fit_Requests {k : Nat} : ∀ (m : Nat) {ds : List D}, fitAll (fit Tryz.prog (k + 3)) (List.replicate m 48) ds → ∃ l : List Rqt, ds = l.flatMap Rqt.cells ∧ l.length = m
 | 0, ds, h => ⟨[], h, rfl⟩
 | m + 1, ds, h => by
  obtain ⟨a, b, rfl, h1, h2⟩ := h
  obtain ⟨x, rfl⟩ := fit_Request h1
  obtain ⟨l, rfl, h3⟩ := fit_Requests m h2
  exact ⟨x :: l, rfl, by simp [h3]⟩
theorem arg_Requests {x : D} (h : fitArg Tryz.prog 43 x) : ∃ l : List Rqt, x = .list l.length (l.flatMap Rqt.cells) := by
 obtain ⟨m, cs, rfl, _, h6⟩ := arg_l Tryz.underlying43 h
 obtain ⟨l, rfl, rfl⟩ := fit_Requests m h6
 exact ⟨l, rfl⟩
end Go.Proofs.YtlnlcdnpgjhaaabGreatDoor.Co
/-
 The document's examples come out: each call computed by the kernel, then the walk through them.
-/
namespace Go.Proofs.YtlnlcdnpgjhaaabGreatDoor.Co
open Go Go.Evl
section
variable {E : Oracle} (g : Good E)
include g
set_option maxRecDepth 100000
theorem aw1 : Fc E n_law02_sample [] (.d (.agg [.str [113, 49], .str [97, 98], .str [65], .str [116, 49], .str [102, 97, 114], .str [], DI 8900, DI 8920, DI 5, DI 605, DI 180, DI 4, DI 12])) := g.compR 1000 (by decide +kernel)
theorem aw2 : Fc E n_message_PrintMinute [I 605] (.tup [S [49, 48, 48, 53], I 0]) := g.compR 1000 (by decide +kernel)
theorem aw3 : Fc E n_message_ParseMinute [S [48, 48, 48, 53]] (.tup [I 5, I 0]) := g.compR 1000 (by decide +kernel)
theorem aw4 : Fc E n_message_ParseMinute [S [50, 52, 48, 48]] (.tup [I 0, I 25]) := g.compR 1000 (by decide +kernel)
theorem aw5 : Fc E n_message_PrintLine [.d (.agg [.str [78], .str [113, 49], .str [97, 98], .str [65], .str [116, 49], .str [102, 97, 114], .str [], DI 8900, DI 8920, DI 5, DI 605, DI 180, DI 4, DI 12])] (.tup [S [78, 32, 97, 98, 32, 113, 49, 32, 65, 32, 102, 97, 114, 32, 48, 56, 57, 48, 48, 32, 48, 56, 57, 50, 48, 32, 49, 48, 51, 48, 48, 48, 48, 32, 49, 48, 48, 53, 32, 49, 56, 48, 32, 52, 32, 49, 50, 32, 116, 49, 32, 45], I 0]) := g.compR 1000 (by decide +kernel)
theorem aw6 : Fc E n_message_ParseLine [S [78, 32, 97, 98, 32, 113, 49, 32, 65, 32, 102, 97, 114, 32, 48, 56, 57, 48, 48, 32, 48, 56, 57, 50, 48, 32, 49, 48, 51, 48, 48, 48, 48, 32, 49, 48, 48, 53, 32, 49, 56, 48, 32, 52, 32, 49, 50, 32, 116, 49, 32, 45]] (.tup [.d (.agg [.str [78], .str [113, 49], .str [97, 98], .str [65], .str [116, 49], .str [102, 97, 114], .str [], DI 8900, DI 8920, DI 5, DI 605, DI 180, DI 4, DI 12]), I 0, I 0]) := g.compR 1000 (by decide +kernel)
theorem aw7 : Fc E n_message_PrintMessage [.d (.agg [.str [82, 69, 81], .str [104, 101, 114, 101], .str [83, 50, 48, 50, 52], DI 8800, .list 1 [.str [78], .str [113, 49], .str [97, 98], .str [65], .str [116, 49], .str [102, 97, 114], .str [], DI 8900, DI 8920, DI 5, DI 605, DI 180, DI 4, DI 12]])] (.tup [S [83, 76, 79, 84, 83, 32, 82, 69, 81, 32, 104, 101, 114, 101, 32, 83, 50, 48, 50, 52, 32, 48, 56, 56, 48, 48, 10, 78, 32, 97, 98, 32, 113, 49, 32, 65, 32, 102, 97, 114, 32, 48, 56, 57, 48, 48, 32, 48, 56, 57, 50, 48, 32, 49, 48, 51, 48, 48, 48, 48, 32, 49, 48, 48, 53, 32, 49, 56, 48, 32, 52, 32, 49, 50, 32, 116, 49, 32, 45, 10, 69, 78, 68, 32, 48, 49, 10], I 0]) := g.compR 1000 (by decide +kernel)
theorem aw8 : Fc E n_message_ParseMessage [S [83, 76, 79, 84, 83, 32, 82, 69, 81, 32, 104, 101, 114, 101, 32, 83, 50, 48, 50, 52, 32, 48, 56, 56, 48, 48, 10, 78, 32, 97, 98, 32, 113, 49, 32, 65, 32, 102, 97, 114, 32, 48, 56, 57, 48, 48, 32, 48, 56, 57, 50, 48, 32, 49, 48, 51, 48, 48, 48, 48, 32, 49, 48, 48, 53, 32, 49, 56, 48, 32, 52, 32, 49, 50, 32, 116, 49, 32, 45, 10, 69, 78, 68, 32, 48, 50, 10]] (.tup [.d (.agg [.str [], .str [], .str [], DI 0, .list 0 []]), I 2, I 27]) := g.compR 1000 (by decide +kernel)
theorem aw9 : Fc E n_message_ParseMessage [S [83, 76, 79, 84, 83, 32, 82, 69, 81, 32, 104, 101, 114, 101, 32, 83, 50, 48, 50, 52, 32, 48, 56, 56, 48, 48, 10, 78, 32, 97, 98, 32, 113, 49, 32, 65, 32, 102, 97, 114, 32, 48, 56, 57, 48, 48, 32, 48, 56, 57, 50, 48, 32, 49, 48, 51, 48, 48, 48, 48, 32, 49, 48, 48, 53, 32, 49, 56, 48, 32, 52, 32, 49, 50, 32, 116, 49, 32, 45, 10]] (.tup [.d (.agg [.str [], .str [], .str [], DI 0, .list 0 []]), I 2, I 28]) := g.compR 1000 (by decide +kernel)
theorem aw10 : Fc E n_message_ParseMessage [S [83, 76, 79, 84, 83, 32, 82, 69, 81, 32, 104, 101, 114, 101, 32, 83, 50, 48, 50, 52, 32, 48, 56, 56, 48, 48, 10, 78, 32, 97, 98, 32, 113, 49, 32, 65, 32, 102, 97, 114, 32, 48, 56, 57, 48, 48, 32, 48, 56, 57, 50, 48, 32, 49, 48, 51, 48, 48, 48, 48, 32, 49, 48, 48, 53, 32, 49, 56, 48, 32, 52, 32, 49, 50, 32, 116, 49, 32, 45, 10, 69, 78, 68, 32, 48, 49, 10]] (.tup [.d (.agg [.str [82, 69, 81], .str [104, 101, 114, 101], .str [83, 50, 48, 50, 52], DI 8800, .list 1 [.str [78], .str [113, 49], .str [97, 98], .str [65], .str [116, 49], .str [102, 97, 114], .str [], DI 8900, DI 8920, DI 5, DI 605, DI 180, DI 4, DI 12]]), I 0, I 0]) := g.compR 1000 (by decide +kernel)
theorem aw11 : Fc E n_message_Requests [.d (.list 2 [.str [82, 69, 81], .str [104, 101, 114, 101], .str [83, 50, 48, 50, 52], DI 8800, .list 1 [.str [78], .str [113, 49], .str [97, 98], .str [65], .str [116, 49], .str [102, 97, 114], .str [], DI 8900, DI 8920, DI 5, DI 605, DI 180, DI 4, DI 12], .str [82, 69, 81], .str [104, 101, 114, 101], .str [83, 50, 48, 50, 52], DI 8800, .list 2 [.str [67], .str [113, 49], .str [97, 98], .str [65], .str [116, 49], .str [102, 97, 114], .str [], DI 8900, DI 8920, DI 5, DI 605, DI 180, DI 4, DI 12, .str [82], .str [113, 49], .str [97, 98], .str [65], .str [116, 49], .str [102, 97, 114], .str [], DI 8900, DI 8920, DI 5, DI 615, DI 180, DI 4, DI 12]])] (.tup [.d (.list 1 [.str [113, 49], .str [97, 98], .str [65], .str [116, 49], .str [102, 97, 114], .str [], DI 8900, DI 8920, DI 5, DI 615, DI 180, DI 4, DI 12, .bool false, DI 8800]), I 0, I 0]) := g.compR 1000 (by decide +kernel)
theorem aw12 : Fc E n_message_Requests [.d (.list 3 [.str [82, 69, 81], .str [104, 101, 114, 101], .str [83, 50, 48, 50, 52], DI 8800, .list 1 [.str [78], .str [113, 49], .str [97, 98], .str [65], .str [116, 49], .str [102, 97, 114], .str [], DI 8900, DI 8920, DI 5, DI 605, DI 180, DI 4, DI 12], .str [82, 69, 81], .str [104, 101, 114, 101], .str [83, 50, 48, 50, 52], DI 8800, .list 2 [.str [67], .str [113, 49], .str [97, 98], .str [65], .str [116, 49], .str [102, 97, 114], .str [], DI 8900, DI 8920, DI 5, DI 605, DI 180, DI 4, DI 12, .str [82], .str [113, 49], .str [97, 98], .str [65], .str [116, 49], .str [102, 97, 114], .str [], DI 8900, DI 8920, DI 5, DI 615, DI 180, DI 4, DI 12], .str [82, 69, 81], .str [104, 101, 114, 101], .str [83, 50, 48, 50, 52], DI 8800, .list 1 [.str [68], .str [113, 49], .str [97, 98], .str [65], .str [116, 49], .str [102, 97, 114], .str [], DI 8900, DI 8920, DI 5, DI 605, DI 180, DI 4, DI 12]])] (.tup [.d (.list 0 []), I 2, I 29]) := g.compR 1000 (by decide +kernel)
theorem aw13 : Fc E n_message_Answers [S [104, 101, 114, 101], S [83, 50, 48, 50, 52], I 8801, .d (.list 1 [.str [113, 49], .str [97, 98], .str [65], .str [116, 49], .str [102, 97, 114], .str [], DI 8900, DI 8920, DI 5, DI 605, DI 180, DI 4, DI 12]), .d (.list 1 [.str [113, 49], .bool true, DI 615])] (.tup [.d (.agg [.str [65, 78, 83], .str [104, 101, 114, 101], .str [83, 50, 48, 50, 52], DI 8801, .list 1 [.str [79], .str [113, 49], .str [97, 98], .str [65], .str [116, 49], .str [102, 97, 114], .str [], DI 8900, DI 8920, DI 5, DI 615, DI 180, DI 4, DI 12]]), I 0]) := g.compR 1000 (by decide +kernel)
theorem aw14 : Fc E n_message_Results [.d (.agg [.str [65, 78, 83], .str [104, 101, 114, 101], .str [83, 50, 48, 50, 52], DI 8801, .list 1 [.str [79], .str [113, 49], .str [97, 98], .str [65], .str [116, 49], .str [102, 97, 114], .str [], DI 8900, DI 8920, DI 5, DI 615, DI 180, DI 4, DI 12]])] (.tup [.d (.list 1 [.str [113, 49], .bool true, DI 615]), I 0]) := g.compR 1000 (by decide +kernel)
theorem aw15 : Fc E n_message_Changed [.d (.list 1 [.str [113, 49], .str [97, 98], .str [65], .str [116, 49], .str [102, 97, 114], .str [], DI 8900, DI 8920, DI 5, DI 605, DI 180, DI 4, DI 12]), .d (.list 2 [.str [113, 49], .str [97, 98], .str [65], .str [116, 49], .str [102, 97, 114], .str [], DI 8900, DI 8920, DI 5, DI 615, DI 180, DI 4, DI 12, .str [113, 50], .str [97, 98], .str [65], .str [116, 49], .str [102, 97, 114], .str [], DI 8900, DI 8920, DI 5, DI 605, DI 180, DI 4, DI 12])] (.tup [.d (.list 3 [.str [67], .str [113, 49], .str [97, 98], .str [65], .str [116, 49], .str [102, 97, 114], .str [], DI 8900, DI 8920, DI 5, DI 605, DI 180, DI 4, DI 12, .str [82], .str [113, 49], .str [97, 98], .str [65], .str [116, 49], .str [102, 97, 114], .str [], DI 8900, DI 8920, DI 5, DI 615, DI 180, DI 4, DI 12, .str [78], .str [113, 50], .str [97, 98], .str [65], .str [116, 49], .str [102, 97, 114], .str [], DI 8900, DI 8920, DI 5, DI 605, DI 180, DI 4, DI 12]), I 0]) := g.compR 1000 (by decide +kernel)
set_option maxHeartbeats 4000000 in
theorem s_awake : Fc E n_law02_awake [] (B true) := by
 refine g.fn code_law02_awake rfl ?_
 repeat' ((conv => whnf); first
 | refine Ya ?_ | refine Yb ?_ | refine Yc ?_ | refine Yd ?_ | refine Ye ?_ | refine Yf ?_ | refine Yg ?_ | refine Yh ?_ | refine Yi rfl ?_ | refine Yj rfl ?_ | refine Yk rfl ?_ | refine Yl rfl ?_
  | (apply CallI.of; first | exact aw1 g | exact aw2 g | exact aw3 g | exact aw4 g | exact aw5 g | exact aw6 g | exact aw7 g | exact aw8 g | exact aw9 g | exact aw10 g | exact aw11 g | exact aw12 g | exact aw13 g | exact aw14 g | exact aw15 g)
  | (refine Need.mk (by simp only [maxStr, List.length_cons, List.length_nil, List.length_append]; omega) ?_)
  | (exact Ret.mk rfl))
end
end Go.Proofs.YtlnlcdnpgjhaaabGreatDoor.Co
/-
 MessageLeads returns true, for all requests.
-/
namespace Go.Proofs.YtlnlcdnpgjhaaabGreatDoor.Co
open Go Go.Evl
set_option maxRecDepth 100000
abbrev HERE : List UInt8 := [104, 101, 114, 101]
abbrev W2030 : List UInt8 := [87, 50, 48, 51, 48]
abbrev nln (x : Rqt) : Lnt := ⟨[78], x⟩
def ldA (b : List Rqt) : Mst := ⟨REQ, HERE, W2030, 10, b.map nln⟩
def ldB (b a : List Rqt) : Mst := ⟨REQ, HERE, W2030, 11, chgL b a⟩
theorem ld_head (d : Int) (h : d = 10 ∨ d = 11) : headE HERE W2030 d = 0 := by
 rcases h with rfl | rfl <;> decide +kernel
theorem twF_self {l : List Rqt} (hu : (nmsQ l).Nodup) {q : Rqt} (h : q ∈ l) : twF l q = some q := by
 obtain ⟨o, ho⟩ := Option.isSome_iff_exists.1 (twF_of h rfl rfl : (twF l q).isSome)
 have hm := twF_mem ho
 rw [ho, nm_eq hu hm.1 h hm.2.2]
theorem chg_none {a : List Rqt} (hu : (nmsQ a).Nodup) : chgL a a = [] := by
 unfold chgL
 have h1 : a.flatMap (dL a) = [] := List.flatMap_eq_nil_iff.2 fun q hq => by unfold dL; rw [twF_self hu hq]
 have h2 : a.flatMap (cL a) = [] := List.flatMap_eq_nil_iff.2 fun q hq => by unfold cL; rw [twF_self hu hq]; exact if_pos rfl
 have h3 : a.flatMap (nL a) = [] := List.flatMap_eq_nil_iff.2 fun q hq => by unfold nL; rw [twF_self hu hq]
 rw [h1, h2, h3]; rfl
theorem chg_len (b a : List Rqt) : (chgL b a).length ≤ b.length + b.length * 2 + a.length := by
 unfold chgL
 have h1 := one_len 1 (dL_len a) b
 have h2 := one_len 2 (cL_len a) b
 have h3 := one_len 1 (nL_len b) a
 rw [List.length_append, List.length_append]
 omega
theorem ld_reqs {b a : List Rqt} (hb : (nmsQ b).Nodup) (ha : (nmsQ a).Nodup) (cb : ∀ x ∈ b, chkRq x = 0) (ca : ∀ x ∈ a, chkRq x = 0) (lb : b.length ≤ 6) (la : a.length ≤ 6) : reqs [ldA b, ldB b a] = (leadL b a, 0, 0) := by
 have hl := chg_len b a
 have m1 : chkMs (ldA b) = 0 := chkMs_ok.2 ⟨by show msgB REQ = true; decide, ld_head 10 (.inl rfl), by show (b.map nln).length ≤ 64; rw [List.length_map]; omega, by show (chkLs REQ none 0 (b.map nln)).2 = 0; rw [chk_new cb]⟩
 have m2 : chkMs (ldB b a) = 0 := chkMs_ok.2 ⟨by show msgB REQ = true; decide, ld_head 11 (.inr rfl), by show (chgL b a).length ≤ 64; omega, by show (chkLs REQ none 0 (chgL b a)).2 = 0; rw [chk_chg cb ca]⟩
 have e1 : msgE (ldA b) (ldA b) (ldA b) = 0 := by
  rw [msgE_eq, if_pos m1, if_pos (show (ldA b).ki = REQ from rfl), if_pos ⟨rfl, rfl⟩, if_neg (Int.lt_irrefl _)]
 have e2 : msgE (ldA b) (ldA b) (ldB b a) = 0 := by
  rw [msgE_eq, if_pos m2, if_pos (show (ldB b a).ki = REQ from rfl), if_pos ⟨rfl, rfl⟩, if_neg (show ¬ (ldB b a).da < (ldA b).da from (by decide : ¬ (11 : Int) < 10))]
 have g1 : linG (ldA b).da [] (ldA b).ls = (b.map e0, 0) := lin_new 10 b [] (fun _ _ h => by cases h) hb (by simp; omega)
 have g2 : linG (ldB b a).da (b.map e0) (ldB b a).ls = (leadL b a, 0) := lin_lead hb ha (by omega)
 show reqG (ldA b) (ldA b) 0 [] [ldA b, ldB b a] = _
 rw [reqG, if_pos e1, g1, if_pos rfl, reqG, if_pos e2, g2, if_pos rfl, reqG]
theorem at_in {l : List Rqt} (hu : (nmsQ l).Nodup) {q : Rqt} (h : q ∈ l) : ∃ (k : Nat) (hk : k < l.length), atG q.nm 0 l = k ∧ l[k] = q := by
 rcases atG_spec q.nm l 0 with ⟨_, hn⟩ | ⟨k, hk, h1, h2, _⟩
 ·exact absurd (List.mem_map_of_mem h) hn
 ·exact ⟨k, hk, by simpa using h1, nm_eq hu (List.getElem_mem hk) h h2⟩
abbrev ldM (b a : List Rqt) : Mem := [(⟨0, 42, 0⟩, .row false ty_message_Line 14 b.length (b.flatMap fun x => (nln x).cells)), (⟨0, 5, 0⟩, .row false ty_message_Line 14 0 []), (⟨0, 5, 1⟩, .cells ty_message_Message [S REQ, S HERE, S W2030, I 10, .ref ⟨0, 42, 0⟩ 0 b.length b.length]), (⟨0, 12, 0⟩, .cells ty_message_Message [S REQ, S HERE, S W2030, I 11, LL (chgL b a)])]
abbrev enV (e : Ent) : List V := [.d (.str e.rq.nm), .d (.str e.rq.ca), .d (.str e.rq.ki), .d (.str e.rq.te), .d (.str e.rq.pa), .d (.str e.rq.li), .d (DI e.rq.fr), .d (DI e.rq.to), .d (DI e.rq.da), .d (DI e.rq.mi), .d (DI e.rq.se), .d (DI e.rq.si), .d (DI e.rq.no), .d (.bool e.hi), .d (DI e.da)]
abbrev ldN (b a : List Rqt) (e : Ent) : Mem := ldM b a ++ [(⟨0, 17, 0⟩, .cells ty_message_Entry (enV e))]
section
variable {E : Oracle} (g : Good E)
include g
set_option maxHeartbeats 8000000 in
theorem ld_inner (b a : List Rqt) (L : List Ent) (k : Nat) (e : Ent) (same : Bool) (hl : (chgL b a).length ≤ 64) (h : same = true → ∀ x ∈ chgL b a, ¬ x.rq.nm = e.rq.nm) {K : Ex → Env → Mem → Prop}
  (hK : K (.exit 4) [(0, LQ b), (1, LQ a), (8, LL (chgL b a)), (17, .ptr ⟨0, 17, 0⟩ 0 0), (20, B same), (108, LE L), (109, I L.length), (110, I k), (150, LL (chgL b a)), (151, I (chgL b a).length), (152, I (chgL b a).length), (153, B false)] (ldN b a e)) :
  LoopW E ⟨0, 0 + 1⟩ [0, 1, 8, 17, 20, 108, 109, 110, 150, 151, 152] [⟨0, 42, 0⟩, ⟨0, 5, 0⟩, ⟨0, 5, 1⟩, ⟨0, 12, 0⟩, ⟨0, 17, 0⟩] b_law02_MessageLeads_2 [(0, LQ b), (1, LQ a), (8, LL (chgL b a)), (17, .ptr ⟨0, 17, 0⟩ 0 0), (20, B same), (108, LE L), (109, I L.length), (110, I k), (150, LL (chgL b a)), (151, I (chgL b a).length), (152, I 0)] (ldN b a e) K := by
 refine LoopW.to (LoopW.up g (fun i => [(0, LQ b), (1, LQ a), (8, LL (chgL b a)), (17, .ptr ⟨0, 17, 0⟩ 0 0), (20, B same), (108, LE L), (109, I L.length), (110, I k), (150, LL (chgL b a)), (151, I (chgL b a).length), (152, I i)]) (fun _ => ldN b a e) (chgL b a).length (fun i hi ih => ?_) 0 (Nat.zero_le _)) rfl rfl
 by_cases hlt : i < (chgL b a).length
 ·have ih := ih hlt
  have hm := List.getElem_mem hlt
  cases same with
  | false =>
   repeat' ((conv => whnf); first
   | refine Ya ?_ | refine Yb ?_ | refine Yc ?_ | refine Yd ?_ | refine Ye ?_ | refine Yf ?_ | refine Yg ?_ | refine Yh ?_ | refine Yi rfl ?_ | refine Yj rfl ?_ | refine Yk rfl ?_ | refine Yl rfl ?_
    | (refine PickW.rec Lnt.cells_length i rfl hlt ?_)
    | (refine LoopW.to ih rfl rfl))
  | true =>
   have hne := h rfl _ hm
   repeat' ((conv => whnf); first
   | refine Ya ?_ | refine Yb ?_ | refine Yc ?_ | refine Yd ?_ | refine Ye ?_ | refine Yf ?_ | refine Yg ?_ | refine Yh ?_ | refine Yi rfl ?_ | refine Yj rfl ?_ | refine Yk rfl ?_ | refine Yl rfl ?_
    | (refine PickW.rec Lnt.cells_length i rfl hlt ?_)
    | (refine Cmp.ff hne ?_)
    | (refine LoopW.to ih rfl rfl))
 ·obtain rfl : i = (chgL b a).length := by omega
  repeat' ((conv => whnf); first
  | refine Ya ?_ | refine Yb ?_ | refine Yc ?_ | refine Yd ?_ | refine Ye ?_ | refine Yf ?_ | refine Yg ?_ | refine Yh ?_ | refine Yi rfl ?_ | refine Yj rfl ?_ | refine Yk rfl ?_ | refine Yl rfl ?_
   | (exact hK))
set_option maxHeartbeats 8000000 in
theorem w_MessageLeads (b a : List Rqt) : Fc E n_law02_MessageLeads [LQ b, LQ a] (B true) := by
 have aw := s_awake g
 refine g.fn code_law02_MessageLeads rfl ?_
 by_cases lb : b.length ≤ 6
 ·by_cases la : a.length ≤ 6
  ·have k1 := r_CheckRequests g b (by omega)
   have k2 := r_CheckRequests g a (by omega)
   by_cases z1 : chkRqs b = 0
   ·by_cases z2 : chkRqs a = 0
    ·rw [z1] at k1
     rw [z2] at k2
     obtain ⟨_, ub, cb⟩ := chkRqs_zero z1
     obtain ⟨_, ua, ca⟩ := chkRqs_zero z2
     have hl := chg_len b a
     have q1 := (s_Changed g b a (by omega) (by omega)).2 (by rw [z1, z2]; rfl)
     have q2 := (s_Changed g a a (by omega) (by omega)).2 (by rw [z2]; rfl)
     rw [if_neg (by omega)] at q1
     rw [chg_none ua, if_neg (by decide)] at q2
     have c1 := w_copied g b (by omega)
     have c2 := w_copied g a (by omega)
     have q3 := s_Requests g [ldA b, ldB b a] (by simp) (fun m hm => by
      simp only [List.mem_cons, List.not_mem_nil, or_false] at hm
      rcases hm with rfl | rfl
      ·show (b.map nln).length ≤ 1000000; rw [List.length_map]; omega
      ·show (chgL b a).length ≤ 1000000; omega)
     rw [ld_reqs ub ua cb ca lb la] at q3
     have q3 : Fc E n_message_Requests [.d (.list 2 [.str REQ, .str HERE, .str W2030, DI 10, .list b.length (b.flatMap fun x => (nln x).cells), .str REQ, .str HERE, .str W2030, DI 11, .list (chgL b a).length ((chgL b a).flatMap Lnt.cells)])] (.tup [LE (leadL b a), I 0, I 0]) := by
      have e1 : (b.map nln).length = b.length := List.length_map ..
      have e2 : (b.map nln).flatMap Lnt.cells = b.flatMap fun x => (nln x).cells := by rw [List.flatMap_map]
      have := q3
      unfold LMs ldA ldB Mst.cells at this
      simp only [List.flatMap_cons, List.flatMap_nil, e1, e2] at this
      exact this
     have hlen := lead_len ub ua
     have hmem := fun e (h : e ∈ leadL b a) => lead_mem h
     have hq := fun {q : Rqt} (h1 : q ∈ b) (h2 : q ∈ a) => lead_quiet ub ua h1 h2
     repeat' ((conv => whnf); first
     | refine Ya ?_ | refine Yb ?_ | refine Yc ?_ | refine Yd ?_ | refine Ye ?_ | refine Yf ?_ | refine Yg ?_ | refine Yh ?_ | refine Yi rfl ?_ | refine Yj rfl ?_ | refine Yk rfl ?_ | refine Yl rfl ?_
      | (apply CallI.of; assumption)
      | fail)
     refine LoopW.to (LoopW.up g (fun k => [(0, LQ b), (1, LQ a), (5, .ptr ⟨0, 5, 1⟩ 0 0), (43, LQ b), (44, I b.length), (45, I k)]) (fun k => [(⟨0, 42, 0⟩, .row false ty_message_Line 14 k ((b.take k).flatMap fun x => (nln x).cells)), (⟨0, 5, 0⟩, .row false ty_message_Line 14 0 []), (⟨0, 5, 1⟩, .cells ty_message_Message [S REQ, S HERE, S W2030, I 10, .ref ⟨0, 42, 0⟩ 0 k k])]) b.length (fun k hk ih => ?_) 0 (Nat.zero_le _)) rfl rfl
     by_cases hlt : k < b.length
     ·have ih := ih hlt
      have hf := flatR_take (fun x => (nln x).cells) b k hlt
      have hfl := flatR_length (fun x => (nln x).cells) 14 (fun _ => rfl) (b.take k)
      rw [List.length_take, Nat.min_eq_left hk] at hfl
      rw [hf] at ih
      clear q1 q2 q3 hq hmem
      repeat' ((conv => whnf); first
      | refine Ya ?_ | refine Yb ?_ | refine Yc ?_ | refine Yd ?_ | refine Ye ?_ | refine Yf ?_ | refine Yg ?_ | refine Yh ?_ | refine Yi rfl ?_ | refine Yj rfl ?_ | refine Yk rfl ?_ | refine Yl rfl ?_
       | (refine PickW.rec Rqt.cells_length k rfl hlt ?_)
       | (refine Need.mk ⟨rfl, rfl, rfl, rfl, rfl, rfl, by show (k + 1) * 168 ≤ _; omega, by omega⟩ ?_)
       | (refine LoopW.to ih rfl rfl)
       | fail)
     ·obtain rfl : k = b.length := by omega
      rw [List.take_length]
      clear ih
      generalize hLd : leadL b a = Ld at *
      repeat' ((conv => whnf); first
      | refine Ya ?_ | refine Yb ?_ | refine Yc ?_ | refine Yd ?_ | refine Ye ?_ | refine Yf ?_ | refine Yg ?_ | refine Yh ?_ | refine Yi rfl ?_ | refine Yj rfl ?_ | refine Yk rfl ?_ | refine Yl rfl ?_
       | (apply CallI.of; assumption)
       | (rw [if_pos (⟨rfl, rfl⟩ : _ ∧ _)])
       | (refine CallI.of q3 ?_)
       | fail)
      clear q1 q2 q3 c1 c2 hk hlt hLd z1 z2 k1 k2 cb ca
      refine LoopW.to (LoopW.up g (fun k => [(0, LQ b), (1, LQ a), (8, LL (chgL b a)), (108, LE Ld), (109, I Ld.length), (110, I k)]) (fun _ => ldM b a) Ld.length (fun k hk ih => ?_) 0 (Nat.zero_le _)) rfl rfl
      by_cases hlt : k < Ld.length
      ·have ih := ih hlt
       obtain ⟨hqa, hhi⟩ := hmem _ (List.getElem_mem hlt)
       obtain ⟨j, hj, hja, hjq⟩ := at_in ua hqa
       have hA := r_At g a Ld[k].rq.nm (by omega)
       have hB := r_At g b Ld[k].rq.nm (by omega)
       rw [hja] at hA
       have hp : ∀ q : Rqt, q = Ld[k].rq → q.nm = Ld[k].rq.nm ∧ q.ca = Ld[k].rq.ca ∧ q.ki = Ld[k].rq.ki ∧ q.te = Ld[k].rq.te ∧ q.pa = Ld[k].rq.pa ∧ q.li = Ld[k].rq.li ∧ q.fr = Ld[k].rq.fr ∧ q.to = Ld[k].rq.to ∧ q.da = Ld[k].rq.da ∧ q.mi = Ld[k].rq.mi ∧ q.se = Ld[k].rq.se ∧ q.si = Ld[k].rq.si ∧ q.no = Ld[k].rq.no := fun q e => by
        subst e
        exact ⟨rfl, rfl, rfl, rfl, rfl, rfl, rfl, rfl, rfl, rfl, rfl, rfl, rfl⟩
       have hpj := hp _ hjq
       rcases atG_spec Ld[k].rq.nm b 0 with ⟨hb1, _⟩ | ⟨i, hib, hb1, hb2, _⟩
       ·rw [hb1] at hB
        repeat' ((conv => whnf); first
        | refine Ya ?_ | refine Yb ?_ | refine Yc ?_ | refine Yd ?_ | refine Ye ?_ | refine Yf ?_ | refine Yg ?_ | refine Yh ?_ | refine Yi rfl ?_ | refine Yj rfl ?_ | refine Yk rfl ?_ | refine Yl rfl ?_
         | (refine PickW.rec Ent.cells_length k rfl hlt ?_)
         | (refine PickW.rec Rqt.cells_length j rfl hj ?_)
         | (refine Cmp.tt hpj ?_)
         | (apply CallI.of; assumption)
         | (simp only [hhi])
         | (refine LoopW.to (ld_inner g b a Ld k ⟨Ld[k].rq, false, Ld[k].da⟩ false (by omega) (fun h => by cases h) ?_) rfl rfl)
         | (refine LoopW.to ih rfl rfl))
       ·rw [hb1, Nat.zero_add] at hB
        by_cases hs : b[i] = Ld[k].rq
        ·have hpi := hp _ hs
         have hqq := hq (q := Ld[k].rq) (hs ▸ List.getElem_mem hib) hqa
         repeat' ((conv => whnf); first
         | refine Ya ?_ | refine Yb ?_ | refine Yc ?_ | refine Yd ?_ | refine Ye ?_ | refine Yf ?_ | refine Yg ?_ | refine Yh ?_ | refine Yi rfl ?_ | refine Yj rfl ?_ | refine Yk rfl ?_ | refine Yl rfl ?_
          | (refine PickW.rec Ent.cells_length k rfl hlt ?_)
          | (refine PickW.rec Rqt.cells_length j rfl hj ?_)
          | (refine PickW.rec Rqt.cells_length i rfl hib ?_)
          | (refine Cmp.tt hpi ?_)
          | (refine Cmp.tt hpj ?_)
          | (apply CallI.of; assumption)
          | (simp only [hhi])
          | (refine LoopW.to (ld_inner g b a Ld k ⟨Ld[k].rq, false, Ld[k].da⟩ true (by omega) (fun _ => hqq) ?_) rfl rfl)
          | (refine LoopW.to ih rfl rfl))
        ·have hpi : ¬ (b[i].nm = Ld[k].rq.nm ∧ b[i].ca = Ld[k].rq.ca ∧ b[i].ki = Ld[k].rq.ki ∧ b[i].te = Ld[k].rq.te ∧ b[i].pa = Ld[k].rq.pa ∧ b[i].li = Ld[k].rq.li ∧ b[i].fr = Ld[k].rq.fr ∧ b[i].to = Ld[k].rq.to ∧ b[i].da = Ld[k].rq.da ∧ b[i].mi = Ld[k].rq.mi ∧ b[i].se = Ld[k].rq.se ∧ b[i].si = Ld[k].rq.si ∧ b[i].no = Ld[k].rq.no) := fun h => hs (rq_ext h)
         repeat' ((conv => whnf); first
         | refine Ya ?_ | refine Yb ?_ | refine Yc ?_ | refine Yd ?_ | refine Ye ?_ | refine Yf ?_ | refine Yg ?_ | refine Yh ?_ | refine Yi rfl ?_ | refine Yj rfl ?_ | refine Yk rfl ?_ | refine Yl rfl ?_
          | (refine PickW.rec Ent.cells_length k rfl hlt ?_)
          | (refine PickW.rec Rqt.cells_length j rfl hj ?_)
          | (refine PickW.rec Rqt.cells_length i rfl hib ?_)
          | (refine Cmp.ff hpi ?_)
          | (refine Cmp.tt hpj ?_)
          | (apply CallI.of; assumption)
          | (simp only [hhi])
          | (refine LoopW.to (ld_inner g b a Ld k ⟨Ld[k].rq, false, Ld[k].da⟩ false (by omega) (fun h => by cases h) ?_) rfl rfl)
          | (refine LoopW.to ih rfl rfl))
      ·obtain rfl : k = Ld.length := by omega
       repeat' ((conv => whnf); first
       | refine Ya ?_ | refine Yb ?_ | refine Yc ?_ | refine Yd ?_ | refine Ye ?_ | refine Yf ?_ | refine Yg ?_ | refine Yh ?_ | refine Yi rfl ?_ | refine Yj rfl ?_ | refine Yk rfl ?_ | refine Yl rfl ?_
        | (apply CallI.of; assumption)
        | (refine Ret.mk rfl))
    ·repeat' ((conv => whnf); first
    | refine Ya ?_ | refine Yb ?_ | refine Yc ?_ | refine Yd ?_ | refine Ye ?_ | refine Yf ?_ | refine Yg ?_ | refine Yh ?_ | refine Yi rfl ?_ | refine Yj rfl ?_ | refine Yk rfl ?_ | refine Yl rfl ?_
      | (apply CallI.of; assumption)
      | (refine Cmp.tt z1 ?_)
      | (refine Cmp.ff z2 ?_)
      | (refine Ret.mk rfl))
   ·repeat' ((conv => whnf); first
   | refine Ya ?_ | refine Yb ?_ | refine Yc ?_ | refine Yd ?_ | refine Ye ?_ | refine Yf ?_ | refine Yg ?_ | refine Yh ?_ | refine Yi rfl ?_ | refine Yj rfl ?_ | refine Yk rfl ?_ | refine Yl rfl ?_
     | (apply CallI.of; assumption)
     | (refine Cmp.ff z1 ?_)
     | (refine Ret.mk rfl))
  ·repeat' ((conv => whnf); first
  | refine Ya ?_ | refine Yb ?_ | refine Yc ?_ | refine Yd ?_ | refine Ye ?_ | refine Yf ?_ | refine Yg ?_ | refine Yh ?_ | refine Yi rfl ?_ | refine Yj rfl ?_ | refine Yk rfl ?_ | refine Yl rfl ?_
    | (apply CallI.of; assumption)
    | (refine Ret.mk rfl))
 ·repeat' ((conv => whnf); first
 | refine Ya ?_ | refine Yb ?_ | refine Yc ?_ | refine Yd ?_ | refine Ye ?_ | refine Yf ?_ | refine Yg ?_ | refine Yh ?_ | refine Yi rfl ?_ | refine Yj rfl ?_ | refine Yk rfl ?_ | refine Yl rfl ?_
   | (apply CallI.of; assumption)
   | (refine Ret.mk rfl))
end
theorem s_MessageLeads {E : Oracle} (g : Good E) {xs : List D} (h : fitArgs Tryz.prog [43, 43] xs) : Fc E n_law02_MessageLeads (asV xs) (B true) := by
 obtain ⟨x, y, rfl, h1, h2⟩ := args2 h
 obtain ⟨b, rfl⟩ := arg_Requests h1
 obtain ⟨a, rfl⟩ := arg_Requests h2
 exact w_MessageLeads g b a
end Go.Proofs.YtlnlcdnpgjhaaabGreatDoor.Co
