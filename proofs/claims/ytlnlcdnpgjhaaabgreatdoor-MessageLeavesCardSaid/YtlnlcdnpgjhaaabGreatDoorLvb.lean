/-
  MessageLeaves returns true, for every argument: the law, and the last part of what it leans on.
-/
import Derived.KernelRfl
import Derived.Laws.RangeAny
import Derived.Lib.SplitLaws
import Derived.Test.YtlnlcdnpgjhaaabGreatDoorEvE
import Derived.Test.YtlnlcdnpgjhaaabGreatDoorEvX
import Derived.Test.YtlnlcdnpgjhaaabGreatDoorGood
import Derived.Test.YtlnlcdnpgjhaaabGreatDoorRead
import Derived.Test.YtlnlcdnpgjhaaabGreatDoorLva
/-
 Entries: one line, by the program, in its caller's memory (form D).
-/
namespace Go.Proofs.YtlnlcdnpgjhaaabGreatDoor.Co
open Go Go.Evl
set_option maxRecDepth 100000
abbrev mD (a b : Mst) (l1 l2 : List Ent) (d c : Nat) (l : List Ent) (x : Lnt) : Mem := [(⟨0, 2, 0⟩, .row true ty_message_Entry 15 0 []), (⟨0, 5, 0⟩, .row true ty_message_Entry 15 l1.length (l1.flatMap Ent.cells)), (⟨0, 75, d⟩, .row true ty_message_Entry 15 l2.length (l2.flatMap Ent.cells)), (⟨0, 9, 0⟩, .cells ty_message_Message (msV a)), (⟨0, 10, 0⟩, .cells ty_message_Message (msV b)), (⟨0, 75, c⟩, .row true ty_message_Entry 15 l.length (l.flatMap Ent.cells)), (⟨0, 12, 0⟩, .cells ty_message_Line (lnV x))]
abbrev nD (a b : Mst) (l1 l2 : List Ent) (d c : Nat) (l : List Ent) (x : Lnt) : Mem := [(⟨0, 2, 0⟩, .row true ty_message_Entry 15 0 []), (⟨0, 5, 0⟩, .row true ty_message_Entry 15 l1.length (l1.flatMap Ent.cells)), (⟨0, 75, d⟩, .row true ty_message_Entry 15 l2.length (l2.flatMap Ent.cells)), (⟨0, 9, 0⟩, .cells ty_message_Message (msV a)), (⟨0, 10, 0⟩, .cells ty_message_Message (msV b)), (⟨0, 75, c⟩, .row true ty_message_Entry 15 l.length (l.flatMap Ent.cells)), (⟨0, 12, 0⟩, .cells ty_message_Line (lnV x)), (⟨1, 4, 0⟩, .cells ty_message_Line (lnV x)), (⟨1, 6, 0⟩, .row true ty_message_Entry 15 0 [])]
abbrev pD (a b : Mst) (l1 l2 : List Ent) (d c : Nat) (l : List Ent) (x : Lnt) : Mem := [(⟨0, 2, 0⟩, .row true ty_message_Entry 15 0 []), (⟨0, 5, 0⟩, .row true ty_message_Entry 15 l1.length (l1.flatMap Ent.cells)), (⟨0, 75, d⟩, .row true ty_message_Entry 15 l2.length (l2.flatMap Ent.cells)), (⟨0, 9, 0⟩, .cells ty_message_Message (msV a)), (⟨0, 10, 0⟩, .cells ty_message_Message (msV b)), (⟨0, 75, c⟩, .row true ty_message_Entry 15 l.length (l.flatMap Ent.cells)), (⟨0, 12, 0⟩, .cells ty_message_Line (lnV x)), (⟨1, 4, 0⟩, .cells ty_message_Line (lnV x)), (⟨1, 6, 0⟩, .row true ty_message_Entry 15 0 []), (⟨2, 3, 0⟩, .cells ty_string [S x.rq.nm])]
section
variable {E : Oracle} (g : Good E)
include g
set_option maxHeartbeats 8000000 in
theorem in_findD (a b : Mst) (l1 l2 : List Ent) (d c : Nat) (hdc : ¬ d = c) (l : List Ent) (x : Lnt) (hl : l.length ≤ 64) {K : V → Mem → Prop} (hK : K (I (plcI x.rq.nm l)) (pD a b l1 l2 d c l x)) : In E 2 n_message_find [.ref ⟨0, 75, c⟩ 0 l.length l.length, S x.rq.nm] (nD a b l1 l2 d c l x) K := by
 have b1 := beq_ne hdc
 have b2 := beq_en hdc
 refine In.enter g.lim rfl code_message_find ?_
 repeat' ((conv => whnf); first
 | refine Ya ?_ | refine Yb ?_ | refine Yc ?_ | refine Yd ?_ | refine Ye ?_ | refine Yf ?_ | refine Yg ?_ | refine Yh ?_ | refine Yi rfl ?_ | refine Yj rfl ?_ | refine Yk rfl ?_ | refine Yl rfl ?_
  | (refine Mt _ (Nat.beq_refl _) ?_)
  | (refine Mf _ b1 ?_)
  | (refine Mf _ b2 ?_)
  | ((refine Mt _ ?_ ?_); focus ((repeat' (first | exact mI_hit rfl | exact mI_hit (Nat.beq_refl _) | ((refine mI_skip ?h ?_); (case h => first | rfl | assumption)))); done))
  | ((refine Mf _ ?_ ?_); focus ((repeat' (first | exact rfl | ((refine mI_skip ?h ?_); (case h => first | rfl | assumption)))); done))
  | (refine In.enter g.lim rfl code_slices_IndexFunc_Lmessage_Entry_message_Entry ?_))
 refine LoopW.to (LoopW.upP g (fun k => [(0, .ref ⟨0, 75, c⟩ 0 l.length l.length), (1, .fn n_message_find_1 [] [.ptr ⟨2, 3, 0⟩ 0 0]), (7, I l.length), (8, I k)]) (fun _ => pD a b l1 l2 d c l x) (fun k => ∀ (j : Nat) (hj : j < l.length), j < k → ¬ l[j].rq.nm = x.rq.nm) l.length (fun k hk hp ih => ?_) 0 (Nat.zero_le _) (fun j _ h => absurd h (Nat.not_lt_zero _))) rfl rfl
 by_cases hlt : k < l.length
 ·by_cases he : l[k].rq.nm = x.rq.nm
  ·have e : plcI x.rq.nm l = k := by unfold plcI; rw [plc_at hlt hp he]
   rw [e] at hK
   repeat' ((conv => whnf); first
   | refine Ya ?_ | refine Yb ?_ | refine Yc ?_ | refine Yd ?_ | refine Ye ?_ | refine Yf ?_ | refine Yg ?_ | refine Yh ?_ | refine Yi rfl ?_ | refine Yj rfl ?_ | refine Yk rfl ?_ | refine Yl rfl ?_
    | (refine PickW.rec0 Ent.cells_length k rfl hlt ?_)
    | (refine In.enter g.lim rfl code_message_find_1 ?_)
    | (refine Cmp.tt he ?_)
     | (refine Mt _ (Nat.beq_refl _) ?_)
     | (refine Mf _ b1 ?_)
     | (refine Mf _ b2 ?_)
     | ((refine Mt _ ?_ ?_); focus ((repeat' (first | exact mI_hit rfl | exact mI_hit (Nat.beq_refl _) | ((refine mI_skip ?h ?_); (case h => first | rfl | assumption)))); done))
     | ((refine Mf _ ?_ ?_); focus ((repeat' (first | exact rfl | ((refine mI_skip ?h ?_); (case h => first | rfl | assumption)))); done))
    | (exact hK))
  ·have ih := ih hlt fun j hj hjk => by
    by_cases e : j = k
    ·subst e; exact he
    ·exact hp j hj (by omega)
   repeat' ((conv => whnf); first
   | refine Ya ?_ | refine Yb ?_ | refine Yc ?_ | refine Yd ?_ | refine Ye ?_ | refine Yf ?_ | refine Yg ?_ | refine Yh ?_ | refine Yi rfl ?_ | refine Yj rfl ?_ | refine Yk rfl ?_ | refine Yl rfl ?_
    | (refine PickW.rec0 Ent.cells_length k rfl hlt ?_)
    | (refine In.enter g.lim rfl code_message_find_1 ?_)
    | (refine Cmp.ff he ?_)
     | (refine Mt _ (Nat.beq_refl _) ?_)
     | (refine Mf _ b1 ?_)
     | (refine Mf _ b2 ?_)
     | ((refine Mt _ ?_ ?_); focus ((repeat' (first | exact mI_hit rfl | exact mI_hit (Nat.beq_refl _) | ((refine mI_skip ?h ?_); (case h => first | rfl | assumption)))); done))
     | ((refine Mf _ ?_ ?_); focus ((repeat' (first | exact rfl | ((refine mI_skip ?h ?_); (case h => first | rfl | assumption)))); done))
    | (refine LoopW.to ih rfl rfl))
 ·have e : plcI x.rq.nm l = -1 := by unfold plcI; rw [plc_non fun j hj => hp j hj (by omega)]
  rw [e] at hK
  repeat' ((conv => whnf); first
  | refine Ya ?_ | refine Yb ?_ | refine Yc ?_ | refine Yd ?_ | refine Ye ?_ | refine Yf ?_ | refine Yg ?_ | refine Yh ?_ | refine Yi rfl ?_ | refine Yj rfl ?_ | refine Yk rfl ?_ | refine Yl rfl ?_
     | (refine Mt _ (Nat.beq_refl _) ?_)
     | (refine Mf _ b1 ?_)
     | (refine Mf _ b2 ?_)
     | ((refine Mt _ ?_ ?_); focus ((repeat' (first | exact mI_hit rfl | exact mI_hit (Nat.beq_refl _) | ((refine mI_skip ?h ?_); (case h => first | rfl | assumption)))); done))
     | ((refine Mf _ ?_ ?_); focus ((repeat' (first | exact rfl | ((refine mI_skip ?h ?_); (case h => first | rfl | assumption)))); done))
   | (exact hK))
set_option maxHeartbeats 16000000 in
theorem in_stepD (a b : Mst) (l1 l2 : List Ent) (d c : Nat) (hdc : ¬ d = c) (l : List Ent) (x : Lnt) (da : Int) (hl : l.length ≤ 64) (hr : x.ac = [82] → (plc x.rq.nm l).isSome) {K : V → Mem → Prop}
  (hE : ∀ e : Int, stpE l x = e → e ≠ 0 → K (.tup [.ref ⟨1, 6, 1⟩ 0 0 0, I e]) (nD a b l1 l2 d c l x ++ [(⟨1, 6, 1⟩, .row true ty_message_Entry 15 0 [])]))
  (hS : stpE l x = 0 → x.ac ≠ [68] → K (.tup [.ref ⟨0, 75, c⟩ 0 (stpL l x da).length (stpL l x da).length, I 0]) (nD a b l1 l2 d c (stpL l x da) x))
  (hD : stpE l x = 0 → x.ac = [68] → K (.tup [.ref ⟨1, 74, 0⟩ 0 (stpL l x da).length (stpL l x da).length, I 0]) (nD a b l1 l2 d c l x ++ [(⟨1, 74, 0⟩, .row true ty_message_Entry 15 (stpL l x da).length ((stpL l x da).flatMap Ent.cells))])) :
  In E 1 n_message_step [.ref ⟨0, 75, c⟩ 0 l.length l.length, Lnv x, I da] (mD a b l1 l2 d c l x) K := by
 have b1 := beq_ne hdc
 have b2 := beq_en hdc
 have hF := fun {K} => in_findD g a b l1 l2 d c hdc l x hl (K := K)
 have hfl := fun (_ : Unit) => flatR_length Ent.cells 15 Ent.cells_length l
 obtain ⟨s, q⟩ := x
 dsimp only at hr hF hS hD
 refine In.enter g.lim rfl code_message_step ?_
 cases hp : plc q.nm l with
 | none =>
  have e : plcI q.nm l = -1 := by unfold plcI; rw [hp]
  rw [e] at hF
  by_cases h1 : s = [78] ∨ s = [72]
  ·obtain ⟨eE, eL⟩ := stp_new (da := da) hp h1
   by_cases h64 : 64 ≤ l.length
   ·have hE := hE 5 (by rw [eE, if_pos h64]) (by decide)
    rcases h1 with rfl | rfl
    all_goals
     repeat' ((conv => whnf); first
     | refine Ya ?_ | refine Yb ?_ | refine Yc ?_ | refine Yd ?_ | refine Ye ?_ | refine Yf ?_ | refine Yg ?_ | refine Yh ?_ | refine Yi rfl ?_ | refine Yj rfl ?_ | refine Yk rfl ?_ | refine Yl rfl ?_
       | (refine Mt _ (Nat.beq_refl _) ?_)
       | (refine Mf _ b1 ?_)
       | (refine Mf _ b2 ?_)
       | ((refine Mt _ ?_ ?_); focus ((repeat' (first | exact mI_hit rfl | exact mI_hit (Nat.beq_refl _) | ((refine mI_skip ?h ?_); (case h => first | rfl | assumption)))); done))
       | ((refine Mf _ ?_ ?_); focus ((repeat' (first | exact rfl | ((refine mI_skip ?h ?_); (case h => first | rfl | assumption)))); done))
      | (refine hF ?_)
      | (refine Cmp.tt rfl ?_)
      | (refine Cmp.ff (by intro h; cases h) ?_)
      | (refine CallI.of (s_mwhen g _ _) ?_)
      | (refine CallI.of (s_mfirst2 g _ _) ?_)
      | (exact hE))
   ·rw [if_neg h64] at eE
    rcases h1 with rfl | rfl
    all_goals
     have hS := hS eE (by decide)
     rw [eL] at hS
     dsimp only [nD] at hS
     rw [List.length_append, List.flatMap_append] at hS
     repeat' ((conv => whnf); first
     | refine Ya ?_ | refine Yb ?_ | refine Yc ?_ | refine Yd ?_ | refine Ye ?_ | refine Yf ?_ | refine Yg ?_ | refine Yh ?_ | refine Yi rfl ?_ | refine Yj rfl ?_ | refine Yk rfl ?_ | refine Yl rfl ?_
       | (refine Mt _ (Nat.beq_refl _) ?_)
       | (refine Mf _ b1 ?_)
       | (refine Mf _ b2 ?_)
       | ((refine Mt _ ?_ ?_); focus ((repeat' (first | exact mI_hit rfl | exact mI_hit (Nat.beq_refl _) | ((refine mI_skip ?h ?_); (case h => first | rfl | assumption)))); done))
       | ((refine Mf _ ?_ ?_); focus ((repeat' (first | exact rfl | ((refine mI_skip ?h ?_); (case h => first | rfl | assumption)))); done))
      | (refine hF ?_)
      | (refine Cmp.tt rfl ?_)
      | (refine Cmp.ff (by intro h; cases h) ?_)
      | (refine CallI.of (s_mwhen g _ _) ?_)
      | (refine CallI.of (s_mfirst2 g _ _) ?_)
      | (refine Need.mk ⟨rfl, rfl, rfl, rfl, rfl, rfl, by show (l.length + 1) * 168 ≤ _; omega, by omega⟩ ?_)
      | (exact hS))
  ·have h2 : ¬ s = [78] := fun h => h1 (.inl h)
   have h3 : ¬ s = [72] := fun h => h1 (.inr h)
   have h4 : ¬ s = [82] := fun h => by have := hr h; rw [hp] at this; cases this
   have hE := hE 10 (stp_none hp h2 h3 h4) (by decide)
   repeat' ((conv => whnf); first
   | refine Ya ?_ | refine Yb ?_ | refine Yc ?_ | refine Yd ?_ | refine Ye ?_ | refine Yf ?_ | refine Yg ?_ | refine Yh ?_ | refine Yi rfl ?_ | refine Yj rfl ?_ | refine Yk rfl ?_ | refine Yl rfl ?_
     | (refine Mt _ (Nat.beq_refl _) ?_)
     | (refine Mf _ b1 ?_)
     | (refine Mf _ b2 ?_)
     | ((refine Mt _ ?_ ?_); focus ((repeat' (first | exact mI_hit rfl | exact mI_hit (Nat.beq_refl _) | ((refine mI_skip ?h ?_); (case h => first | rfl | assumption)))); done))
     | ((refine Mf _ ?_ ?_); focus ((repeat' (first | exact rfl | ((refine mI_skip ?h ?_); (case h => first | rfl | assumption)))); done))
    | (refine hF ?_)
    | (refine Cmp.ff h2 ?_)
    | (refine Cmp.ff h3 ?_)
    | (refine Cmp.ff h4 ?_)
    | (exact hE))
 | some k =>
  have e : plcI q.nm l = k := by unfold plcI; rw [hp]
  rw [e] at hF
  obtain ⟨hk, hnm, _⟩ := plc_some hp
  by_cases h1 : s = [78] ∨ s = [72]
  ·have hE := hE 9 (stp_twice hp h1) (by decide)
   rcases h1 with rfl | rfl
   all_goals
    repeat' ((conv => whnf); first
    | refine Ya ?_ | refine Yb ?_ | refine Yc ?_ | refine Yd ?_ | refine Ye ?_ | refine Yf ?_ | refine Yg ?_ | refine Yh ?_ | refine Yi rfl ?_ | refine Yj rfl ?_ | refine Yk rfl ?_ | refine Yl rfl ?_
     | (refine Mt _ (Nat.beq_refl _) ?_)
     | (refine Mf _ b1 ?_)
     | (refine Mf _ b2 ?_)
     | ((refine Mt _ ?_ ?_); focus ((repeat' (first | exact mI_hit rfl | exact mI_hit (Nat.beq_refl _) | ((refine mI_skip ?h ?_); (case h => first | rfl | assumption)))); done))
     | ((refine Mf _ ?_ ?_); focus ((repeat' (first | exact rfl | ((refine mI_skip ?h ?_); (case h => first | rfl | assumption)))); done))
     | (refine hF ?_)
     | (refine Cmp.tt rfl ?_)
     | (refine Cmp.ff (by intro h; cases h) ?_)
     | (refine CallI.of (s_mwhen g _ _) ?_)
     | (refine CallI.of (s_mfirst2 g _ _) ?_)
     | (exact hE)
     | (refine Cmp.mk (fun h => ?_) (fun h => ?_)) | (refine Rem.any (by omega) (fun r hr he => ?_)) | (refine Br.mk (fun h => ?_) (fun h => ?_))
     | (exfalso; omega))
  ·have h2 : ¬ s = [78] := fun h => h1 (.inl h)
   have h3 : ¬ s = [72] := fun h => h1 (.inr h)
   by_cases h4 : s = [82]
   ·subst h4
    obtain ⟨eE, eL⟩ := stp_repl (da := da) hp hk
    have hS := hS eE (by decide)
    have ep : patch (l.flatMap Ent.cells) ((0 + ((k : Nat) : Int).toNat) * 15) (Ent.cells ⟨q, l[k].hi, da⟩) = (l.set k ⟨q, l[k].hi, da⟩).flatMap Ent.cells := by
     rw [show (0 + ((k : Nat) : Int).toNat) * 15 = k * 15 by omega]
     exact ent_patch l k ⟨q, l[k].hi, da⟩ hk
    rw [eL] at hS
    dsimp only [nD] at hS
    rw [List.length_set, ← ep] at hS
    repeat' ((conv => whnf); first
    | refine Ya ?_ | refine Yb ?_ | refine Yc ?_ | refine Yd ?_ | refine Ye ?_ | refine Yf ?_ | refine Yg ?_ | refine Yh ?_ | refine Yi rfl ?_ | refine Yj rfl ?_ | refine Yk rfl ?_ | refine Yl rfl ?_
       | (refine Mt _ (Nat.beq_refl _) ?_)
       | (refine Mf _ b1 ?_)
       | (refine Mf _ b2 ?_)
       | ((refine Mt _ ?_ ?_); focus ((repeat' (first | exact mI_hit rfl | exact mI_hit (Nat.beq_refl _) | ((refine mI_skip ?h ?_); (case h => first | rfl | assumption)))); done))
       | ((refine Mf _ ?_ ?_); focus ((repeat' (first | exact rfl | ((refine mI_skip ?h ?_); (case h => first | rfl | assumption)))); done))
     | (refine hF ?_)
     | (refine Cmp.tt rfl ?_)
     | (refine Cmp.ff (by intro h; cases h) ?_)
     | (refine Pick.rec0 (d := .bool l[k].hi) Ent.cells_length k rfl hk rfl ?_)
     | (refine Need.mk ⟨by omega, by omega, rfl, by omega, rfl⟩ ?_)
     | (refine Need.mk ⟨rfl, by simp only [hfl ()]; omega, rfl⟩ ?_)
     | (exact hS))
   ·obtain ⟨eE, eL⟩ := stp_some (da := da) hp hk h2 h3 h4
    by_cases hq : l[k].rq = q
    ·rw [if_pos hq] at eE
     have hpp : l[k].rq.nm = q.nm ∧ l[k].rq.ca = q.ca ∧ l[k].rq.ki = q.ki ∧ l[k].rq.te = q.te ∧ l[k].rq.pa = q.pa ∧ l[k].rq.li = q.li ∧ l[k].rq.fr = q.fr ∧ l[k].rq.to = q.to ∧ l[k].rq.da = q.da ∧ l[k].rq.mi = q.mi ∧ l[k].rq.se = q.se ∧ l[k].rq.si = q.si ∧ l[k].rq.no = q.no := by
      rw [hq]
      exact ⟨rfl, rfl, rfl, rfl, rfl, rfl, rfl, rfl, rfl, rfl, rfl, rfl, rfl⟩
     by_cases h5 : s = [68]
     ·subst h5
      have hD := hD eE rfl
      rw [eL, if_pos rfl] at hD
      dsimp only [nD] at hD
      obtain ⟨eA, eB⟩ := ent_copy l k hk
      have eAn := (congrArg List.length eA).trans (show _ = (k - 0) * 15 by rw [flatR_length Ent.cells 15 Ent.cells_length, List.length_take]; omega)
      have eBn := (congrArg List.length eB).trans (show _ = (l.length - (k + 1)) * 15 by rw [flatR_length Ent.cells 15 Ent.cells_length, List.length_drop])
      have hlen : (l.eraseIdx k).length = ((l.length : Int) - 1).toNat := by rw [List.length_eraseIdx_of_lt hk]; omega
      rw [hlen] at hD
      repeat' ((conv => whnf); first
      | refine Ya ?_ | refine Yb ?_ | refine Yc ?_ | refine Yd ?_ | refine Ye ?_ | refine Yf ?_ | refine Yg ?_ | refine Yh ?_ | refine Yi rfl ?_ | refine Yj rfl ?_ | refine Yk rfl ?_ | refine Yl rfl ?_
       | (refine Mt _ (Nat.beq_refl _) ?_)
       | (refine Mf _ b1 ?_)
       | (refine Mf _ b2 ?_)
       | ((refine Mt _ ?_ ?_); focus ((repeat' (first | exact mI_hit rfl | exact mI_hit (Nat.beq_refl _) | ((refine mI_skip ?h ?_); (case h => first | rfl | assumption)))); done))
       | ((refine Mf _ ?_ ?_); focus ((repeat' (first | exact rfl | ((refine mI_skip ?h ?_); (case h => first | rfl | assumption)))); done))
       | (refine hF ?_)
       | (refine Cmp.tt rfl ?_)
       | (refine Cmp.ff (by intro h; cases h) ?_)
       | (refine Cmp.tt hpp ?_)
       | (refine PickW.part0 Ent.cells_length (j := 0) k rfl hk (by omega) rfl ?_)
       | (refine Bounds.at 0 k (by omega) (by omega) (by omega) ?_)
       | (refine Bounds.at k (l.length - 1) (by omega) (by omega) (by omega) ?_)
       | (refine Bounds.at (k + 1) l.length (by omega) (by omega) (by omega) ?_)
       | (refine Need.mk ⟨rfl, by omega, rfl, eAn⟩ ?_)
       | (refine Need.mk ⟨rfl, by omega, rfl, eBn⟩ ?_))
      rw [← ent_made l k hk eA eB] at hD
      exact hD
     ·have hS := hS eE h5
      rw [eL, if_neg h5] at hS
      repeat' ((conv => whnf); first
      | refine Ya ?_ | refine Yb ?_ | refine Yc ?_ | refine Yd ?_ | refine Ye ?_ | refine Yf ?_ | refine Yg ?_ | refine Yh ?_ | refine Yi rfl ?_ | refine Yj rfl ?_ | refine Yk rfl ?_ | refine Yl rfl ?_
       | (refine Mt _ (Nat.beq_refl _) ?_)
       | (refine Mf _ b1 ?_)
       | (refine Mf _ b2 ?_)
       | ((refine Mt _ ?_ ?_); focus ((repeat' (first | exact mI_hit rfl | exact mI_hit (Nat.beq_refl _) | ((refine mI_skip ?h ?_); (case h => first | rfl | assumption)))); done))
       | ((refine Mf _ ?_ ?_); focus ((repeat' (first | exact rfl | ((refine mI_skip ?h ?_); (case h => first | rfl | assumption)))); done))
       | (refine hF ?_)
       | (refine Cmp.ff h2 ?_)
       | (refine Cmp.ff h3 ?_)
       | (refine Cmp.ff h4 ?_)
       | (refine Cmp.ff h5 ?_)
       | (refine Cmp.tt hpp ?_)
       | (refine PickW.part0 Ent.cells_length (j := 0) k rfl hk (by omega) rfl ?_)
       | (exact hS))
    ·rw [if_neg hq] at eE
     have hE := hE 29 eE (by decide)
     have hpp : ¬ (l[k].rq.nm = q.nm ∧ l[k].rq.ca = q.ca ∧ l[k].rq.ki = q.ki ∧ l[k].rq.te = q.te ∧ l[k].rq.pa = q.pa ∧ l[k].rq.li = q.li ∧ l[k].rq.fr = q.fr ∧ l[k].rq.to = q.to ∧ l[k].rq.da = q.da ∧ l[k].rq.mi = q.mi ∧ l[k].rq.se = q.se ∧ l[k].rq.si = q.si ∧ l[k].rq.no = q.no) := fun h => hq (rq_ext h)
     repeat' ((conv => whnf); first
     | refine Ya ?_ | refine Yb ?_ | refine Yc ?_ | refine Yd ?_ | refine Ye ?_ | refine Yf ?_ | refine Yg ?_ | refine Yh ?_ | refine Yi rfl ?_ | refine Yj rfl ?_ | refine Yk rfl ?_ | refine Yl rfl ?_
       | (refine Mt _ (Nat.beq_refl _) ?_)
       | (refine Mf _ b1 ?_)
       | (refine Mf _ b2 ?_)
       | ((refine Mt _ ?_ ?_); focus ((repeat' (first | exact mI_hit rfl | exact mI_hit (Nat.beq_refl _) | ((refine mI_skip ?h ?_); (case h => first | rfl | assumption)))); done))
       | ((refine Mf _ ?_ ?_); focus ((repeat' (first | exact rfl | ((refine mI_skip ?h ?_); (case h => first | rfl | assumption)))); done))
      | (refine hF ?_)
      | (refine Cmp.ff h2 ?_)
      | (refine Cmp.ff h3 ?_)
      | (refine Cmp.ff h4 ?_)
      | (refine Cmp.ff hpp ?_)
      | (refine PickW.part0 Ent.cells_length (j := 0) k rfl hk (by omega) rfl ?_)
      | (exact hE))
end
end Go.Proofs.YtlnlcdnpgjhaaabGreatDoor.Co
/-
 A message's lines, by the program.
-/
namespace Go.Proofs.YtlnlcdnpgjhaaabGreatDoor.Co
open Go Go.Evl
set_option maxRecDepth 100000
theorem settle_tlow {cx : Cx} {slot lo : Nat} {old m : Mem} {o : Evl.Id} {off l top : Nat} {x : D} (h : o.lv < lo) : Go.Evl.settle cx slot lo old m (.tup [.ref o off l top, .d x]) = some (.tup [.ref o off l top, .d x], old) := by
 have hn : ¬ lo ≤ o.lv := by omega
 have hr : Go.Evl.reach lo m 64 (Go.Evl.ids (.tup [.ref o off l top, .d x])) [] = [] := by
  simp [Go.Evl.ids, Go.Evl.idsL, Go.Evl.reach, hn]
 unfold Go.Evl.settle
 simp only [hr]
 rw [if_pos (by simp [Go.Evl.within, Go.Evl.movable, Go.Evl.onceB, Go.Evl.ids, Go.Evl.idsL, h])]
 simp [Go.Evl.number, Go.Evl.ren, Go.Evl.renL, Go.Evl.subst, Go.Evl.moved]
theorem Some'.tlow {cx : Cx} {slot lo : Nat} {old m : Mem} {o : Evl.Id} {off l top : Nat} {x : D} {K : V × Mem → Prop} (h : o.lv < lo) (k : K (.tup [.ref o off l top, .d x], old)) : Some' (Go.Evl.settle cx slot lo old m (.tup [.ref o off l top, .d x])) K := ⟨_, settle_tlow h, k⟩
theorem settle_trow {cx : Cx} {slot lo : Nat} {old m : Mem} {o : Evl.Id} {off l top : Nat} {x : D} {wr : Bool} {t sz n : Nat} {xs : List D} (hlo : lo ≤ o.lv) (hl : Evl.look m o = some (.row wr t sz n xs)) :
  Go.Evl.settle cx slot lo old m (.tup [.ref o off l top, .d x]) = some (.tup [.ref ⟨cx.lv, slot, Go.Evl.freeK cx.lv slot old⟩ off l top, .d x], old ++ [(⟨cx.lv, slot, Go.Evl.freeK cx.lv slot old⟩, .row wr t sz n xs)]) := by
 have hr : Go.Evl.reach lo m 64 (Go.Evl.ids (.tup [.ref o off l top, .d x])) [] = [o] := by
  simp [Go.Evl.ids, Go.Evl.idsL, Go.Evl.reach, hlo, hl, Go.Evl.idsO]
 unfold Go.Evl.settle
 simp only [hr]
 rw [if_pos (by simp [Go.Evl.within, Go.Evl.movable, Go.Evl.onceB, Go.Evl.ids, Go.Evl.idsL, hl, hlo, Go.Evl.idsO, Go.Evl.isLoop])]
 simp [Go.Evl.number, Go.Evl.ren, Go.Evl.renL, Go.Evl.subst, Go.Evl.moved, hl, Go.Evl.renO]
theorem Some'.trow {cx : Cx} {slot lo : Nat} {old m : Mem} {o : Evl.Id} {off l top : Nat} {x : D} {wr : Bool} {t sz n : Nat} {xs : List D} {K : V × Mem → Prop} (c : Nat) (hlo : lo ≤ o.lv) (hl : Evl.look m o = some (.row wr t sz n xs)) (hf : Go.Evl.freeK cx.lv slot old = c)
  (k : K (.tup [.ref ⟨cx.lv, slot, c⟩ off l top, .d x], old ++ [(⟨cx.lv, slot, c⟩, .row wr t sz n xs)])) : Some' (Go.Evl.settle cx slot lo old m (.tup [.ref o off l top, .d x])) K := ⟨_, settle_trow hlo hl, by rw [hf]; exact k⟩
abbrev kA (a b : Mst) (l : List Ent) : Mem := [(⟨0, 2, 0⟩, .row true ty_message_Entry 15 0 []), (⟨0, 5, 0⟩, .row true ty_message_Entry 15 l.length (l.flatMap Ent.cells)), (⟨0, 9, 0⟩, .cells ty_message_Message (msV a)), (⟨0, 10, 0⟩, .cells ty_message_Message (msV b))]
abbrev qA (a b : Mst) (l : List Ent) (x : Lnt) (z : Nat) : Mem := [(⟨0, 2, 0⟩, .row true ty_message_Entry 15 0 []), (⟨0, 5, 0⟩, .row true ty_message_Entry 15 l.length (l.flatMap Ent.cells)), (⟨0, 9, 0⟩, .cells ty_message_Message (msV a)), (⟨0, 10, 0⟩, .cells ty_message_Message (msV b)), (⟨0, 12, 0⟩, .cells ty_message_Line (lnV x)), (⟨0, 75, z⟩, .row true ty_message_Entry 15 0 [])]
abbrev kB (a b : Mst) (l1 : List Ent) (c : Nat) (l : List Ent) : Mem := [(⟨0, 2, 0⟩, .row true ty_message_Entry 15 0 []), (⟨0, 5, 0⟩, .row true ty_message_Entry 15 l1.length (l1.flatMap Ent.cells)), (⟨0, 9, 0⟩, .cells ty_message_Message (msV a)), (⟨0, 10, 0⟩, .cells ty_message_Message (msV b)), (⟨0, 75, c⟩, .row true ty_message_Entry 15 l.length (l.flatMap Ent.cells))]
abbrev qB (a b : Mst) (l1 : List Ent) (c : Nat) (l : List Ent) (x : Lnt) (z : Nat) : Mem := [(⟨0, 2, 0⟩, .row true ty_message_Entry 15 0 []), (⟨0, 5, 0⟩, .row true ty_message_Entry 15 l1.length (l1.flatMap Ent.cells)), (⟨0, 9, 0⟩, .cells ty_message_Message (msV a)), (⟨0, 10, 0⟩, .cells ty_message_Message (msV b)), (⟨0, 75, c⟩, .row true ty_message_Entry 15 l.length (l.flatMap Ent.cells)), (⟨0, 12, 0⟩, .cells ty_message_Line (lnV x)), (⟨0, 75, z⟩, .row true ty_message_Entry 15 0 [])]
abbrev kC (a b : Mst) (l1 : List Ent) (c : Nat) (l : List Ent) : Mem := [(⟨0, 2, 0⟩, .row true ty_message_Entry 15 0 []), (⟨0, 5, 0⟩, .row true ty_message_Entry 15 l1.length (l1.flatMap Ent.cells)), (⟨0, 75, c⟩, .row true ty_message_Entry 15 l.length (l.flatMap Ent.cells)), (⟨0, 9, 0⟩, .cells ty_message_Message (msV a)), (⟨0, 10, 0⟩, .cells ty_message_Message (msV b))]
abbrev qC (a b : Mst) (l1 : List Ent) (c : Nat) (l : List Ent) (x : Lnt) (z : Nat) : Mem := [(⟨0, 2, 0⟩, .row true ty_message_Entry 15 0 []), (⟨0, 5, 0⟩, .row true ty_message_Entry 15 l1.length (l1.flatMap Ent.cells)), (⟨0, 75, c⟩, .row true ty_message_Entry 15 l.length (l.flatMap Ent.cells)), (⟨0, 9, 0⟩, .cells ty_message_Message (msV a)), (⟨0, 10, 0⟩, .cells ty_message_Message (msV b)), (⟨0, 12, 0⟩, .cells ty_message_Line (lnV x)), (⟨0, 75, z⟩, .row true ty_message_Entry 15 0 [])]
abbrev kD (a b : Mst) (l1 l2 : List Ent) (d c : Nat) (l : List Ent) : Mem := [(⟨0, 2, 0⟩, .row true ty_message_Entry 15 0 []), (⟨0, 5, 0⟩, .row true ty_message_Entry 15 l1.length (l1.flatMap Ent.cells)), (⟨0, 75, d⟩, .row true ty_message_Entry 15 l2.length (l2.flatMap Ent.cells)), (⟨0, 9, 0⟩, .cells ty_message_Message (msV a)), (⟨0, 10, 0⟩, .cells ty_message_Message (msV b)), (⟨0, 75, c⟩, .row true ty_message_Entry 15 l.length (l.flatMap Ent.cells))]
abbrev qD (a b : Mst) (l1 l2 : List Ent) (d c : Nat) (l : List Ent) (x : Lnt) (z : Nat) : Mem := [(⟨0, 2, 0⟩, .row true ty_message_Entry 15 0 []), (⟨0, 5, 0⟩, .row true ty_message_Entry 15 l1.length (l1.flatMap Ent.cells)), (⟨0, 75, d⟩, .row true ty_message_Entry 15 l2.length (l2.flatMap Ent.cells)), (⟨0, 9, 0⟩, .cells ty_message_Message (msV a)), (⟨0, 10, 0⟩, .cells ty_message_Message (msV b)), (⟨0, 75, c⟩, .row true ty_message_Entry 15 l.length (l.flatMap Ent.cells)), (⟨0, 12, 0⟩, .cells ty_message_Line (lnV x)), (⟨0, 75, z⟩, .row true ty_message_Entry 15 0 [])]
abbrev eL (ms : List Mst) (i : Nat) (a : Mst) (o : Evl.Id) (n k : Nat) : Env := [(0, LMs ms), (5, .ref o 0 n n), (6, I i), (7, I 0), (9, .ptr ⟨0, 9, 0⟩ 0 0), (16, LMs ms), (17, I ms.length), (18, I i), (64, LL a.ls), (65, I a.ls.length), (66, I k)]
abbrev eX (ms : List Mst) (i : Nat) (a : Mst) (o : Evl.Id) (n k : Nat) : Env := [(0, LMs ms), (5, .ref o 0 n n), (6, I i), (7, I 0), (9, .ptr ⟨0, 9, 0⟩ 0 0), (16, LMs ms), (17, I ms.length), (18, I i), (64, LL a.ls), (65, I a.ls.length), (66, I k), (67, B false)]
abbrev eB (ms : List Mst) (i : Nat) (a : Mst) (o : Evl.Id) (e : Int) (k : Nat) : Env := [(0, LMs ms), (5, .ref o 0 0 0), (6, I i), (7, I e), (9, .ptr ⟨0, 9, 0⟩ 0 0), (16, LMs ms), (17, I ms.length), (18, I i), (64, LL a.ls), (65, I a.ls.length), (66, I k), (67, B true), (79, B true)]
section
variable {E : Oracle} (g : Good E)
include g
set_option maxHeartbeats 16000000 in
theorem s_lines0 (ms : List Mst) (i : Nat) (a b : Mst) (l0 : List Ent) (hl0 : l0.length ≤ 64) (ha : a.ls.length ≤ 1000000) (ok : plcOk a.da l0 a.ls) (res : List Ent × Int) (hres : linG a.da l0 a.ls = res) {K : Ex → Env → Mem → Prop}
  (okP : ∀ l : List Ent, res = (l, 0) → l.length ≤ 64 → Hold (K (.exit 2) (eX ms i a ⟨0, 5, 0⟩ l.length a.ls.length) (kA a b l)))
  (okQ : ∀ (l l1 : List Ent) (c : Nat), res = (l, 0) → l.length ≤ 64 → Hold (K (.exit 2) (eX ms i a ⟨0, 75, c⟩ l.length a.ls.length) (kB a b l1 c l)))
  (noP : ∀ (l : List Ent) (x : Lnt) (e : Int) (k : Nat), e ≠ 0 → res.2 = e → Hold (K (.exit 0) (eB ms i a ⟨0, 75, 0⟩ e k) (qA a b l x 0)))
  (noQ : ∀ (l l1 : List Ent) (c : Nat) (x : Lnt) (e : Int) (k : Nat), e ≠ 0 → res.2 = e → Hold (K (.exit 0) (eB ms i a ⟨0, 75, (c + 1)⟩ e k) (qB a b l1 c l x (c + 1)))) :
  LoopW E ⟨0, 0 + 1⟩ [0, 5, 6, 7, 9, 16, 17, 18, 64, 65, 66] [⟨0, 2, 0⟩, ⟨0, 5, 0⟩, ⟨0, 9, 0⟩, ⟨0, 10, 0⟩] b_message_Requests_1 (eL ms i a ⟨0, 5, 0⟩ l0.length 0) (kA a b l0) K := by
 refine LoopW.to (LoopW.by (σ := Option (List Ent × Nat) × List Ent × Nat) g (fun s => s.2.1.length ≤ 64 ∧ s.2.2 ≤ a.ls.length ∧ linG a.da s.2.1 (a.ls.drop s.2.2) = res ∧ plcOk a.da s.2.1 (a.ls.drop s.2.2) ∧ (∀ p, s.1 = some p → True)) (fun s => match s.1 with | none => eL ms i a ⟨0, 5, 0⟩ s.2.1.length s.2.2 | some p => eL ms i a ⟨0, 75, p.2⟩ s.2.1.length s.2.2) (fun s => match s.1 with | none => kA a b s.2.1 | some p => kB a b p.1 p.2 s.2.1) (fun s => a.ls.length - s.2.2) ?_ (none, l0, 0) ⟨hl0, Nat.zero_le _, hres, ok, fun _ h => by cases h⟩) rfl rfl
 clear hres ok hl0
 rintro ⟨_ | ⟨l1, c⟩, l, k⟩ ⟨hl, hk, hr, hp, hd⟩ ih
 ·dsimp only at hl hk hr hp hd ih ⊢
  clear hd
  by_cases hlt : k < a.ls.length
  ·rw [linG_drop hlt] at hr
   rw [List.drop_eq_getElem_cons hlt] at hp
   obtain ⟨hp1, hp2⟩ := hp
   have hst := fun {K} => in_stepA g a b l a.ls[k] a.da hl hp1 (K := K)
   by_cases hz : stpE l a.ls[k] = 0
   ·rw [if_pos hz] at hr
    have hlen := stp_len (da := a.da) hl hz hp1
    by_cases h68 : a.ls[k].ac = [68]
    ·have ih := ih (some (l, 0), stpL l a.ls[k] a.da, k + 1) ⟨hlen, by dsimp only; omega, hr, hp2 hz, fun _ _ => trivial⟩ (by dsimp only; omega)
     dsimp only at ih
     generalize stpL l a.ls[k] a.da = L at *
     repeat' ((conv => whnf); first
     | refine Ya ?_ | refine Yb ?_ | refine Yc ?_ | refine Yd ?_ | refine Ye ?_ | refine Yf ?_ | refine Yg ?_ | refine Yh ?_ | refine Yi rfl ?_ | refine Yj rfl ?_ | refine Yk rfl ?_ | refine Yl rfl ?_
      | (refine PickW.rec Lnt.cells_length k rfl hlt ?_)
      | (refine hst (fun e h1 h2 => absurd (h1 ▸ hz) h2) (fun _ h => absurd h68 h) (fun _ _ => ?_))
      | (refine Some'.trow 0 (by decide) rfl rfl ?_)
      | (refine LoopW.to ih rfl rfl))
    ·have ih := ih (none, stpL l a.ls[k] a.da, k + 1) ⟨hlen, by dsimp only; omega, hr, hp2 hz, fun _ h => by cases h⟩ (by dsimp only; omega)
     dsimp only at ih
     generalize stpL l a.ls[k] a.da = L at *
     repeat' ((conv => whnf); first
     | refine Ya ?_ | refine Yb ?_ | refine Yc ?_ | refine Yd ?_ | refine Ye ?_ | refine Yf ?_ | refine Yg ?_ | refine Yh ?_ | refine Yi rfl ?_ | refine Yj rfl ?_ | refine Yk rfl ?_ | refine Yl rfl ?_
      | (refine PickW.rec Lnt.cells_length k rfl hlt ?_)
      | (refine hst (fun e h1 h2 => absurd (h1 ▸ hz) h2) (fun _ _ => ?_) (fun _ h => absurd h h68))
      | (refine Some'.tlow (Nat.lt_succ_self 0) ?_)
      | (refine LoopW.to ih rfl rfl))
   ·rw [if_neg hz] at hr
    have hno := (noP l a.ls[k] (stpE l a.ls[k]) k hz (by rw [← hr])).go
    generalize hez : stpE l a.ls[k] = ez at *
    repeat' ((conv => whnf); first
    | refine Ya ?_ | refine Yb ?_ | refine Yc ?_ | refine Yd ?_ | refine Ye ?_ | refine Yf ?_ | refine Yg ?_ | refine Yh ?_ | refine Yi rfl ?_ | refine Yj rfl ?_ | refine Yk rfl ?_ | refine Yl rfl ?_
     | (refine PickW.rec Lnt.cells_length k rfl hlt ?_)
     | (refine hst (fun e h1 h2 => ?_) (fun h _ => absurd h hz) (fun h _ => absurd h hz))
     | (obtain rfl := h1)
     | (refine Some'.trow 0 (by decide) rfl rfl ?_)
     | (refine Cmp.ff hz ?_)
     | (exact hno))
  ·obtain rfl : k = a.ls.length := by omega
   rw [List.drop_length, linG] at hr
   have hok := (okP l hr.symm hl).go
   repeat' ((conv => whnf); first
   | refine Ya ?_ | refine Yb ?_ | refine Yc ?_ | refine Yd ?_ | refine Ye ?_ | refine Yf ?_ | refine Yg ?_ | refine Yh ?_ | refine Yi rfl ?_ | refine Yj rfl ?_ | refine Yk rfl ?_ | refine Yl rfl ?_
    | (exact hok))
 ·dsimp only at hl hk hr hp hd ih ⊢
  clear hd
  have b1 : Nat.beq c (c + 1) = false := beq_ne (by omega)
  have b2 : Nat.beq (c + 1) c = false := beq_ne (by omega)
  by_cases hlt : k < a.ls.length
  ·rw [linG_drop hlt] at hr
   rw [List.drop_eq_getElem_cons hlt] at hp
   obtain ⟨hp1, hp2⟩ := hp
   have hst := fun {K} => in_stepB g a b l1 c l a.ls[k] a.da hl hp1 (K := K)
   by_cases hz : stpE l a.ls[k] = 0
   ·rw [if_pos hz] at hr
    have hlen := stp_len (da := a.da) hl hz hp1
    by_cases h68 : a.ls[k].ac = [68]
    ·have ih := ih (some (l1, c + 1), stpL l a.ls[k] a.da, k + 1) ⟨hlen, by dsimp only; omega, hr, hp2 hz, fun _ _ => trivial⟩ (by dsimp only; omega)
     dsimp only at ih
     generalize stpL l a.ls[k] a.da = L at *
     repeat' ((conv => whnf); first
     | refine Ya ?_ | refine Yb ?_ | refine Yc ?_ | refine Yd ?_ | refine Ye ?_ | refine Yf ?_ | refine Yg ?_ | refine Yh ?_ | refine Yi rfl ?_ | refine Yj rfl ?_ | refine Yk rfl ?_ | refine Yl rfl ?_
      | (refine Mt _ (Nat.beq_refl _) ?_)
      | (refine Mf _ b1 ?_)
      | (refine Mf _ b2 ?_)
      | ((refine Mt _ ?_ ?_); focus ((repeat' (first | exact mI_hit rfl | exact mI_hit (Nat.beq_refl _) | ((refine mI_skip ?h ?_); (case h => first | rfl | assumption)))); done))
      | ((refine Mf _ ?_ ?_); focus ((repeat' (first | exact rfl | ((refine mI_skip ?h ?_); (case h => first | rfl | assumption)))); done))
      | (refine PickW.rec Lnt.cells_length k rfl hlt ?_)
      | (refine hst (fun e h1 h2 => absurd (h1 ▸ hz) h2) (fun _ h => absurd h68 h) (fun _ _ => ?_))
      | (refine Some'.trow (c + 1) (by decide) rfl (by simp [Go.Evl.freeK]) ?_)
      | (refine LoopW.to ih rfl rfl))
    ·have ih := ih (some (l1, c), stpL l a.ls[k] a.da, k + 1) ⟨hlen, by dsimp only; omega, hr, hp2 hz, fun _ _ => trivial⟩ (by dsimp only; omega)
     dsimp only at ih
     generalize stpL l a.ls[k] a.da = L at *
     repeat' ((conv => whnf); first
     | refine Ya ?_ | refine Yb ?_ | refine Yc ?_ | refine Yd ?_ | refine Ye ?_ | refine Yf ?_ | refine Yg ?_ | refine Yh ?_ | refine Yi rfl ?_ | refine Yj rfl ?_ | refine Yk rfl ?_ | refine Yl rfl ?_
      | (refine Mt _ (Nat.beq_refl _) ?_)
      | (refine Mf _ b1 ?_)
      | (refine Mf _ b2 ?_)
      | ((refine Mt _ ?_ ?_); focus ((repeat' (first | exact mI_hit rfl | exact mI_hit (Nat.beq_refl _) | ((refine mI_skip ?h ?_); (case h => first | rfl | assumption)))); done))
      | ((refine Mf _ ?_ ?_); focus ((repeat' (first | exact rfl | ((refine mI_skip ?h ?_); (case h => first | rfl | assumption)))); done))
      | (refine PickW.rec Lnt.cells_length k rfl hlt ?_)
      | (refine hst (fun e h1 h2 => absurd (h1 ▸ hz) h2) (fun _ _ => ?_) (fun _ h => absurd h h68))
      | (refine Some'.tlow (Nat.lt_succ_self 0) ?_)
      | (refine LoopW.to ih rfl rfl))
   ·rw [if_neg hz] at hr
    have hno := (noQ l l1 c a.ls[k] (stpE l a.ls[k]) k hz (by rw [← hr])).go
    generalize hez : stpE l a.ls[k] = ez at *
    repeat' ((conv => whnf); first
    | refine Ya ?_ | refine Yb ?_ | refine Yc ?_ | refine Yd ?_ | refine Ye ?_ | refine Yf ?_ | refine Yg ?_ | refine Yh ?_ | refine Yi rfl ?_ | refine Yj rfl ?_ | refine Yk rfl ?_ | refine Yl rfl ?_
     | (refine Mt _ (Nat.beq_refl _) ?_)
     | (refine Mf _ b1 ?_)
     | (refine Mf _ b2 ?_)
     | ((refine Mt _ ?_ ?_); focus ((repeat' (first | exact mI_hit rfl | exact mI_hit (Nat.beq_refl _) | ((refine mI_skip ?h ?_); (case h => first | rfl | assumption)))); done))
     | ((refine Mf _ ?_ ?_); focus ((repeat' (first | exact rfl | ((refine mI_skip ?h ?_); (case h => first | rfl | assumption)))); done))
     | (refine PickW.rec Lnt.cells_length k rfl hlt ?_)
     | (refine hst (fun e h1 h2 => ?_) (fun h _ => absurd h hz) (fun h _ => absurd h hz))
     | (obtain rfl := h1)
     | (refine Some'.trow (c + 1) (by decide) rfl (by simp [Go.Evl.freeK]) ?_)
     | (refine Cmp.ff hz ?_)
     | (exact hno))
  ·obtain rfl : k = a.ls.length := by omega
   rw [List.drop_length, linG] at hr
   have hok := (okQ l l1 c hr.symm hl).go
   repeat' ((conv => whnf); first
   | refine Ya ?_ | refine Yb ?_ | refine Yc ?_ | refine Yd ?_ | refine Ye ?_ | refine Yf ?_ | refine Yg ?_ | refine Yh ?_ | refine Yi rfl ?_ | refine Yj rfl ?_ | refine Yk rfl ?_ | refine Yl rfl ?_
    | (refine Mt _ (Nat.beq_refl _) ?_)
    | (refine Mf _ b1 ?_)
    | (refine Mf _ b2 ?_)
    | ((refine Mt _ ?_ ?_); focus ((repeat' (first | exact mI_hit rfl | exact mI_hit (Nat.beq_refl _) | ((refine mI_skip ?h ?_); (case h => first | rfl | assumption)))); done))
    | ((refine Mf _ ?_ ?_); focus ((repeat' (first | exact rfl | ((refine mI_skip ?h ?_); (case h => first | rfl | assumption)))); done))
    | (exact hok))
set_option maxHeartbeats 16000000 in
theorem s_lines1 (ms : List Mst) (i : Nat) (a b : Mst) (l1 : List Ent) (d : Nat) (l0 : List Ent) (hl0 : l0.length ≤ 64) (ha : a.ls.length ≤ 1000000) (ok : plcOk a.da l0 a.ls) (res : List Ent × Int) (hres : linG a.da l0 a.ls = res) {K : Ex → Env → Mem → Prop}
  (okP : ∀ l : List Ent, res = (l, 0) → l.length ≤ 64 → Hold (K (.exit 2) (eX ms i a ⟨0, 75, d⟩ l.length a.ls.length) (kC a b l1 d l)))
  (okQ : ∀ (l l2 : List Ent) (c : Nat), res = (l, 0) → l.length ≤ 64 → d < c → Hold (K (.exit 2) (eX ms i a ⟨0, 75, c⟩ l.length a.ls.length) (kD a b l1 l2 d c l)))
  (noP : ∀ (l : List Ent) (x : Lnt) (e : Int) (k : Nat), e ≠ 0 → res.2 = e → Hold (K (.exit 0) (eB ms i a ⟨0, 75, (d + 1)⟩ e k) (qC a b l1 d l x (d + 1))))
  (noQ : ∀ (l l2 : List Ent) (c : Nat) (x : Lnt) (e : Int) (k : Nat), e ≠ 0 → res.2 = e → d < c → Hold (K (.exit 0) (eB ms i a ⟨0, 75, (c + 1)⟩ e k) (qD a b l1 l2 d c l x (c + 1)))) :
  LoopW E ⟨0, 0 + 1⟩ [0, 5, 6, 7, 9, 16, 17, 18, 64, 65, 66] [⟨0, 2, 0⟩, ⟨0, 5, 0⟩, ⟨0, 75, d⟩, ⟨0, 9, 0⟩, ⟨0, 10, 0⟩] b_message_Requests_1 (eL ms i a ⟨0, 75, d⟩ l0.length 0) (kC a b l1 d l0) K := by
 refine LoopW.to (LoopW.by (σ := Option (List Ent × Nat) × List Ent × Nat) g (fun s => s.2.1.length ≤ 64 ∧ s.2.2 ≤ a.ls.length ∧ linG a.da s.2.1 (a.ls.drop s.2.2) = res ∧ plcOk a.da s.2.1 (a.ls.drop s.2.2) ∧ (∀ p, s.1 = some p → d < p.2)) (fun s => match s.1 with | none => eL ms i a ⟨0, 75, d⟩ s.2.1.length s.2.2 | some p => eL ms i a ⟨0, 75, p.2⟩ s.2.1.length s.2.2) (fun s => match s.1 with | none => kC a b l1 d s.2.1 | some p => kD a b l1 p.1 d p.2 s.2.1) (fun s => a.ls.length - s.2.2) ?_ (none, l0, 0) ⟨hl0, Nat.zero_le _, hres, ok, fun _ h => by cases h⟩) rfl rfl
 clear hres ok hl0
 rintro ⟨_ | ⟨l2, c⟩, l, k⟩ ⟨hl, hk, hr, hp, hd⟩ ih
 ·dsimp only at hl hk hr hp hd ih ⊢
  clear hd
  have b1 : Nat.beq d (d + 1) = false := beq_ne (by omega)
  have b2 : Nat.beq (d + 1) d = false := beq_ne (by omega)
  by_cases hlt : k < a.ls.length
  ·rw [linG_drop hlt] at hr
   rw [List.drop_eq_getElem_cons hlt] at hp
   obtain ⟨hp1, hp2⟩ := hp
   have hst := fun {K} => in_stepC g a b l1 d l a.ls[k] a.da hl hp1 (K := K)
   by_cases hz : stpE l a.ls[k] = 0
   ·rw [if_pos hz] at hr
    have hlen := stp_len (da := a.da) hl hz hp1
    by_cases h68 : a.ls[k].ac = [68]
    ·have ih := ih (some (l, d + 1), stpL l a.ls[k] a.da, k + 1) ⟨hlen, by dsimp only; omega, hr, hp2 hz, fun p hp => by cases hp; exact Nat.lt_succ_self _⟩ (by dsimp only; omega)
     dsimp only at ih
     generalize stpL l a.ls[k] a.da = L at *
     repeat' ((conv => whnf); first
     | refine Ya ?_ | refine Yb ?_ | refine Yc ?_ | refine Yd ?_ | refine Ye ?_ | refine Yf ?_ | refine Yg ?_ | refine Yh ?_ | refine Yi rfl ?_ | refine Yj rfl ?_ | refine Yk rfl ?_ | refine Yl rfl ?_
      | (refine Mt _ (Nat.beq_refl _) ?_)
      | (refine Mf _ b1 ?_)
      | (refine Mf _ b2 ?_)
      | ((refine Mt _ ?_ ?_); focus ((repeat' (first | exact mI_hit rfl | exact mI_hit (Nat.beq_refl _) | ((refine mI_skip ?h ?_); (case h => first | rfl | assumption)))); done))
      | ((refine Mf _ ?_ ?_); focus ((repeat' (first | exact rfl | ((refine mI_skip ?h ?_); (case h => first | rfl | assumption)))); done))
      | (refine PickW.rec Lnt.cells_length k rfl hlt ?_)
      | (refine hst (fun e h1 h2 => absurd (h1 ▸ hz) h2) (fun _ h => absurd h68 h) (fun _ _ => ?_))
      | (refine Some'.trow (d + 1) (by decide) rfl (by simp [Go.Evl.freeK]) ?_)
      | (refine LoopW.to ih rfl rfl))
    ·have ih := ih (none, stpL l a.ls[k] a.da, k + 1) ⟨hlen, by dsimp only; omega, hr, hp2 hz, fun _ h => by cases h⟩ (by dsimp only; omega)
     dsimp only at ih
     generalize stpL l a.ls[k] a.da = L at *
     repeat' ((conv => whnf); first
     | refine Ya ?_ | refine Yb ?_ | refine Yc ?_ | refine Yd ?_ | refine Ye ?_ | refine Yf ?_ | refine Yg ?_ | refine Yh ?_ | refine Yi rfl ?_ | refine Yj rfl ?_ | refine Yk rfl ?_ | refine Yl rfl ?_
      | (refine Mt _ (Nat.beq_refl _) ?_)
      | (refine Mf _ b1 ?_)
      | (refine Mf _ b2 ?_)
      | ((refine Mt _ ?_ ?_); focus ((repeat' (first | exact mI_hit rfl | exact mI_hit (Nat.beq_refl _) | ((refine mI_skip ?h ?_); (case h => first | rfl | assumption)))); done))
      | ((refine Mf _ ?_ ?_); focus ((repeat' (first | exact rfl | ((refine mI_skip ?h ?_); (case h => first | rfl | assumption)))); done))
      | (refine PickW.rec Lnt.cells_length k rfl hlt ?_)
      | (refine hst (fun e h1 h2 => absurd (h1 ▸ hz) h2) (fun _ _ => ?_) (fun _ h => absurd h h68))
      | (refine Some'.tlow (Nat.lt_succ_self 0) ?_)
      | (refine LoopW.to ih rfl rfl))
   ·rw [if_neg hz] at hr
    have hno := (noP l a.ls[k] (stpE l a.ls[k]) k hz (by rw [← hr])).go
    generalize hez : stpE l a.ls[k] = ez at *
    repeat' ((conv => whnf); first
    | refine Ya ?_ | refine Yb ?_ | refine Yc ?_ | refine Yd ?_ | refine Ye ?_ | refine Yf ?_ | refine Yg ?_ | refine Yh ?_ | refine Yi rfl ?_ | refine Yj rfl ?_ | refine Yk rfl ?_ | refine Yl rfl ?_
     | (refine Mt _ (Nat.beq_refl _) ?_)
     | (refine Mf _ b1 ?_)
     | (refine Mf _ b2 ?_)
     | ((refine Mt _ ?_ ?_); focus ((repeat' (first | exact mI_hit rfl | exact mI_hit (Nat.beq_refl _) | ((refine mI_skip ?h ?_); (case h => first | rfl | assumption)))); done))
     | ((refine Mf _ ?_ ?_); focus ((repeat' (first | exact rfl | ((refine mI_skip ?h ?_); (case h => first | rfl | assumption)))); done))
     | (refine PickW.rec Lnt.cells_length k rfl hlt ?_)
     | (refine hst (fun e h1 h2 => ?_) (fun h _ => absurd h hz) (fun h _ => absurd h hz))
     | (obtain rfl := h1)
     | (refine Some'.trow (d + 1) (by decide) rfl (by simp [Go.Evl.freeK]) ?_)
     | (refine Cmp.ff hz ?_)
     | (exact hno))
  ·obtain rfl : k = a.ls.length := by omega
   rw [List.drop_length, linG] at hr
   have hok := (okP l hr.symm hl).go
   repeat' ((conv => whnf); first
   | refine Ya ?_ | refine Yb ?_ | refine Yc ?_ | refine Yd ?_ | refine Ye ?_ | refine Yf ?_ | refine Yg ?_ | refine Yh ?_ | refine Yi rfl ?_ | refine Yj rfl ?_ | refine Yk rfl ?_ | refine Yl rfl ?_
    | (refine Mt _ (Nat.beq_refl _) ?_)
    | (refine Mf _ b1 ?_)
    | (refine Mf _ b2 ?_)
    | ((refine Mt _ ?_ ?_); focus ((repeat' (first | exact mI_hit rfl | exact mI_hit (Nat.beq_refl _) | ((refine mI_skip ?h ?_); (case h => first | rfl | assumption)))); done))
    | ((refine Mf _ ?_ ?_); focus ((repeat' (first | exact rfl | ((refine mI_skip ?h ?_); (case h => first | rfl | assumption)))); done))
    | (exact hok))
 ·dsimp only at hl hk hr hp hd ih ⊢
  have hd : d < c := hd _ rfl
  have b1 : Nat.beq c (c + 1) = false := beq_ne (by omega)
  have b2 : Nat.beq (c + 1) c = false := beq_ne (by omega)
  have b3 : Nat.beq d c = false := beq_ne (by omega)
  have b4 : Nat.beq c d = false := beq_ne (by omega)
  have b5 : Nat.beq d (c + 1) = false := beq_ne (by omega)
  have b6 : Nat.beq (c + 1) d = false := beq_ne (by omega)
  by_cases hlt : k < a.ls.length
  ·rw [linG_drop hlt] at hr
   rw [List.drop_eq_getElem_cons hlt] at hp
   obtain ⟨hp1, hp2⟩ := hp
   have hst := fun {K} => in_stepD g a b l1 l2 d c (show ¬ d = c by omega) l a.ls[k] a.da hl hp1 (K := K)
   by_cases hz : stpE l a.ls[k] = 0
   ·rw [if_pos hz] at hr
    have hlen := stp_len (da := a.da) hl hz hp1
    by_cases h68 : a.ls[k].ac = [68]
    ·have ih := ih (some (l2, c + 1), stpL l a.ls[k] a.da, k + 1) ⟨hlen, by dsimp only; omega, hr, hp2 hz, fun p hp => by cases hp; dsimp only; omega⟩ (by dsimp only; omega)
     dsimp only at ih
     generalize stpL l a.ls[k] a.da = L at *
     repeat' ((conv => whnf); first
     | refine Ya ?_ | refine Yb ?_ | refine Yc ?_ | refine Yd ?_ | refine Ye ?_ | refine Yf ?_ | refine Yg ?_ | refine Yh ?_ | refine Yi rfl ?_ | refine Yj rfl ?_ | refine Yk rfl ?_ | refine Yl rfl ?_
      | (refine Mt _ (Nat.beq_refl _) ?_)
      | (refine Mf _ b1 ?_)
      | (refine Mf _ b2 ?_)
      | (refine Mf _ b3 ?_)
      | (refine Mf _ b4 ?_)
      | (refine Mf _ b5 ?_)
      | (refine Mf _ b6 ?_)
      | ((refine Mt _ ?_ ?_); focus ((repeat' (first | exact mI_hit rfl | exact mI_hit (Nat.beq_refl _) | ((refine mI_skip ?h ?_); (case h => first | rfl | assumption)))); done))
      | ((refine Mf _ ?_ ?_); focus ((repeat' (first | exact rfl | ((refine mI_skip ?h ?_); (case h => first | rfl | assumption)))); done))
      | (refine PickW.rec Lnt.cells_length k rfl hlt ?_)
      | (refine hst (fun e h1 h2 => absurd (h1 ▸ hz) h2) (fun _ h => absurd h68 h) (fun _ _ => ?_))
      | (refine Some'.trow (c + 1) (by decide) rfl (by simp [Go.Evl.freeK]; omega) ?_)
      | (refine LoopW.to ih rfl rfl))
    ·have ih := ih (some (l2, c), stpL l a.ls[k] a.da, k + 1) ⟨hlen, by dsimp only; omega, hr, hp2 hz, fun p hp => by cases hp; exact hd⟩ (by dsimp only; omega)
     dsimp only at ih
     generalize stpL l a.ls[k] a.da = L at *
     repeat' ((conv => whnf); first
     | refine Ya ?_ | refine Yb ?_ | refine Yc ?_ | refine Yd ?_ | refine Ye ?_ | refine Yf ?_ | refine Yg ?_ | refine Yh ?_ | refine Yi rfl ?_ | refine Yj rfl ?_ | refine Yk rfl ?_ | refine Yl rfl ?_
      | (refine Mt _ (Nat.beq_refl _) ?_)
      | (refine Mf _ b1 ?_)
      | (refine Mf _ b2 ?_)
      | (refine Mf _ b3 ?_)
      | (refine Mf _ b4 ?_)
      | (refine Mf _ b5 ?_)
      | (refine Mf _ b6 ?_)
      | ((refine Mt _ ?_ ?_); focus ((repeat' (first | exact mI_hit rfl | exact mI_hit (Nat.beq_refl _) | ((refine mI_skip ?h ?_); (case h => first | rfl | assumption)))); done))
      | ((refine Mf _ ?_ ?_); focus ((repeat' (first | exact rfl | ((refine mI_skip ?h ?_); (case h => first | rfl | assumption)))); done))
      | (refine PickW.rec Lnt.cells_length k rfl hlt ?_)
      | (refine hst (fun e h1 h2 => absurd (h1 ▸ hz) h2) (fun _ _ => ?_) (fun _ h => absurd h h68))
      | (refine Some'.tlow (Nat.lt_succ_self 0) ?_)
      | (refine LoopW.to ih rfl rfl))
   ·rw [if_neg hz] at hr
    have hno := (noQ l l2 c a.ls[k] (stpE l a.ls[k]) k hz (by rw [← hr]) hd).go
    generalize hez : stpE l a.ls[k] = ez at *
    repeat' ((conv => whnf); first
    | refine Ya ?_ | refine Yb ?_ | refine Yc ?_ | refine Yd ?_ | refine Ye ?_ | refine Yf ?_ | refine Yg ?_ | refine Yh ?_ | refine Yi rfl ?_ | refine Yj rfl ?_ | refine Yk rfl ?_ | refine Yl rfl ?_
     | (refine Mt _ (Nat.beq_refl _) ?_)
     | (refine Mf _ b1 ?_)
     | (refine Mf _ b2 ?_)
     | (refine Mf _ b3 ?_)
     | (refine Mf _ b4 ?_)
     | (refine Mf _ b5 ?_)
     | (refine Mf _ b6 ?_)
     | ((refine Mt _ ?_ ?_); focus ((repeat' (first | exact mI_hit rfl | exact mI_hit (Nat.beq_refl _) | ((refine mI_skip ?h ?_); (case h => first | rfl | assumption)))); done))
     | ((refine Mf _ ?_ ?_); focus ((repeat' (first | exact rfl | ((refine mI_skip ?h ?_); (case h => first | rfl | assumption)))); done))
     | (refine PickW.rec Lnt.cells_length k rfl hlt ?_)
     | (refine hst (fun e h1 h2 => ?_) (fun h _ => absurd h hz) (fun h _ => absurd h hz))
     | (obtain rfl := h1)
     | (refine Some'.trow (c + 1) (by decide) rfl (by simp [Go.Evl.freeK]; omega) ?_)
     | (refine Cmp.ff hz ?_)
     | (exact hno))
  ·obtain rfl : k = a.ls.length := by omega
   rw [List.drop_length, linG] at hr
   have hok := (okQ l l2 c hr.symm hl hd).go
   repeat' ((conv => whnf); first
   | refine Ya ?_ | refine Yb ?_ | refine Yc ?_ | refine Yd ?_ | refine Ye ?_ | refine Yf ?_ | refine Yg ?_ | refine Yh ?_ | refine Yi rfl ?_ | refine Yj rfl ?_ | refine Yk rfl ?_ | refine Yl rfl ?_
    | (refine Mt _ (Nat.beq_refl _) ?_)
    | (refine Mf _ b1 ?_)
    | (refine Mf _ b2 ?_)
    | (refine Mf _ b3 ?_)
    | (refine Mf _ b4 ?_)
    | (refine Mf _ b5 ?_)
    | (refine Mf _ b6 ?_)
    | ((refine Mt _ ?_ ?_); focus ((repeat' (first | exact mI_hit rfl | exact mI_hit (Nat.beq_refl _) | ((refine mI_skip ?h ?_); (case h => first | rfl | assumption)))); done))
    | ((refine Mf _ ?_ ?_); focus ((repeat' (first | exact rfl | ((refine mI_skip ?h ?_); (case h => first | rfl | assumption)))); done))
    | (exact hok))
end
end Go.Proofs.YtlnlcdnpgjhaaabGreatDoor.Co
/-
 Requests, by the program.
-/
namespace Go.Proofs.YtlnlcdnpgjhaaabGreatDoor.Co
open Go Go.Evl
set_option maxRecDepth 100000
abbrev oA (l : List Ent) : Mem := [(⟨0, 2, 0⟩, .row true ty_message_Entry 15 0 []), (⟨0, 5, 0⟩, .row true ty_message_Entry 15 l.length (l.flatMap Ent.cells))]
abbrev oB (l1 : List Ent) (c : Nat) (l : List Ent) : Mem := [(⟨0, 2, 0⟩, .row true ty_message_Entry 15 0 []), (⟨0, 5, 0⟩, .row true ty_message_Entry 15 l1.length (l1.flatMap Ent.cells)), (⟨0, 75, c⟩, .row true ty_message_Entry 15 l.length (l.flatMap Ent.cells))]
abbrev eO (ms : List Mst) (o : Evl.Id) (n i : Nat) : Env := [(0, LMs ms), (5, .ref o 0 n n), (6, I ((i - 1 : Nat) : Int)), (7, I 0), (16, LMs ms), (17, I ms.length), (18, I i)]
section
variable {E : Oracle} (g : Good E)
include g
theorem s_firstW (f p m : Mst) (b1 b2 b3 : Bool) (h1 : b1 = !decide (m.ki = REQ)) (h2 : b2 = !decide (m.ai = f.ai ∧ m.se = f.se)) (h3 : b3 = decide (m.da < p.da)) : Fc E n_message_first [.d (.list 4 [DI (chkMs m), DI (if b1 = true then 13 else 0), DI (if b2 = true then 29 else 0), DI (if b3 = true then 11 else 0)])] (I (msgE f p m)) := by
 have h := s_mfirst4 g (chkMs m) (if b1 = true then 13 else 0) (if b2 = true then 29 else 0) (if b3 = true then 11 else 0)
 have e : msgE f p m = firstI [chkMs m, if b1 = true then 13 else 0, if b2 = true then 29 else 0, if b3 = true then 11 else 0] := by
  unfold msgE
  congr 1
  subst h1 h2 h3
  by_cases q1 : m.ki = REQ <;> by_cases q2 : m.ai = f.ai ∧ m.se = f.se <;> by_cases q3 : m.da < p.da <;> simp [q1, q2, q3]
 rw [e]
 exact h
set_option maxHeartbeats 16000000 in
theorem s_Requests (ms : List Mst) (hms : ms.length ≤ 1000) (hls : ∀ m ∈ ms, m.ls.length ≤ 1000000) : Fc E n_message_Requests [LMs ms] (.tup [LE (reqs ms).1, I ((reqs ms).2.1 : Nat), I (reqs ms).2.2]) := by
 refine g.fn code_message_Requests rfl ?_
 by_cases h64 : 64 < ms.length
 ·unfold reqs
  rw [if_pos h64]
  repeat' ((conv => whnf); first
  | refine Ya ?_ | refine Yb ?_ | refine Yc ?_ | refine Yd ?_ | refine Ye ?_ | refine Yf ?_ | refine Yg ?_ | refine Yh ?_ | refine Yi rfl ?_ | refine Yj rfl ?_ | refine Yk rfl ?_ | refine Yl rfl ?_
   | (refine Ret.mk rfl))
 ·by_cases h0 : ms.length = 0
  ·obtain rfl := List.length_eq_zero_iff.1 h0
   repeat' ((conv => whnf); first
   | refine Ya ?_ | refine Yb ?_ | refine Yc ?_ | refine Yd ?_ | refine Ye ?_ | refine Yf ?_ | refine Yg ?_ | refine Yh ?_ | refine Yi rfl ?_ | refine Yj rfl ?_ | refine Yk rfl ?_ | refine Yl rfl ?_
    | (refine LoopW.step g.lim ?_)
    | (refine Ret.mk rfl))
  ·have hpos : 0 < ms.length := by omega
   generalize hR : V.tup [LE (reqs ms).1, I ((reqs ms).2.1 : Nat), I (reqs ms).2.2] = R
   rw [reqs_eq hpos (by omega)] at hR
   rw [ms_get hpos] at hR
   repeat' ((conv => whnf); first
   | refine Ya ?_ | refine Yb ?_ | refine Yc ?_ | refine Yd ?_ | refine Ye ?_ | refine Yf ?_ | refine Yg ?_ | refine Yh ?_ | refine Yi rfl ?_ | refine Yj rfl ?_ | refine Yk rfl ?_ | refine Yl rfl ?_)
   refine LoopW.to (LoopW.by (σ := Option (List Ent × Nat) × List Ent × Nat) g (fun s => s.2.1.length ≤ 64 ∧ s.2.2 ≤ ms.length ∧ reqG ms[0] ms[0] 0 [] ms = reqG ms[0] (ms.getD (s.2.2 - 1) zeroM) s.2.2 s.2.1 (ms.drop s.2.2)) (fun s => match s.1 with | none => eO ms ⟨0, 5, 0⟩ s.2.1.length s.2.2 | some q => eO ms ⟨0, 75, q.2⟩ s.2.1.length s.2.2) (fun s => match s.1 with | none => oA s.2.1 | some q => oB q.1 q.2 s.2.1) (fun s => ms.length - s.2.2) ?_ (none, [], 0) ⟨by simp, Nat.zero_le _, by rw [show 0 - 1 = 0 from rfl, ms_get hpos]; rfl⟩) rfl rfl
   rintro ⟨_ | ⟨l1, d⟩, out, i⟩ ⟨hout, hi, hr⟩ ih
   ·dsimp only at hout hi hr ih ⊢
    rw [hr] at hR
    by_cases hlt : i < ms.length
    ·have hp : i - 1 < ms.length := by omega
     have hmem := List.getElem_mem hlt
     have hC := s_CheckMessage g ms[i] (hls _ hmem)
     have hW := s_firstW g ms[0] ms[i - 1] ms[i] _ _ _ rfl rfl rfl
     rw [ms_get hp] at hR hr
     rw [reqG_drop hlt] at hR
     by_cases hz : msgE ms[0] ms[i - 1] ms[i] = 0
     ·rw [if_pos hz] at hR
      have hrd := fun (h2 : (linG ms[i].da out ms[i].ls).2 = 0) => by
       have e := hr
       rw [reqG_drop hlt, if_pos hz, if_pos h2] at e
       exact e
      rw [hz] at hW
      have hz' := hz
      unfold msgE at hz'
      rw [firstI_zero] at hz'
      have hzc := hz' (chkMs ms[i]) (by simp)
      have hk : ms[i].ki = REQ := Decidable.byContradiction fun hn => by have := hz' (if ms[i].ki = REQ then 0 else 13) (by simp); rw [if_neg hn] at this; cases this
      have hh : ms[i].ai = ms[0].ai ∧ ms[i].se = ms[0].se := Decidable.byContradiction fun hn => by have := hz' (if ms[i].ai = ms[0].ai ∧ ms[i].se = ms[0].se then 0 else 29) (by simp); rw [if_neg hn] at this; cases this
      have hd : ¬ ms[i].da < ms[i - 1].da := fun hn => by have := hz' (if ms[i].da < ms[i - 1].da then 11 else 0) (by simp); rw [if_pos hn] at this; cases this
      rw [decide_eq_true hk, decide_eq_true hh, decide_eq_false hd] at hW
      obtain ⟨ha, hs⟩ := hh
      have ok := plcOk_of ms[i].da ms[i].ls out none 0 (by have := (chkMs_ok.1 hzc).ok; rw [hk] at this; exact this) (fun y hy => by cases hy)
      generalize hres : linG ms[i].da out ms[i].ls = res at hR hrd
      have hin := fun {K} => s_lines0 g ms i ms[i] ms[i - 1] out hout (hls _ hmem) ok res hres (K := K)
      have hbad : ∀ e : Int, e ≠ 0 → res.2 = e → V.tup [LE [], I (i : Nat), I e] = R := fun e h1 h2 => by
       rw [if_neg (show ¬ res.2 = 0 by rw [h2]; exact h1), h2] at hR
       exact hR
      clear hz' hR ok hres
      repeat' ((conv => whnf); first
      | refine Ya ?_ | refine Yb ?_ | refine Yc ?_ | refine Yd ?_ | refine Ye ?_ | refine Yf ?_ | refine Yg ?_ | refine Yh ?_ | refine Yi rfl ?_ | refine Yj rfl ?_ | refine Yk rfl ?_ | refine Yl rfl ?_
       | (refine PickW.rec Mst.cells_length i rfl hlt ?_)
       | (refine PickW.rec Mst.cells_length (i - 1) (by omega) hp ?_)
       | (refine Pick.rec Mst.cells_length 0 rfl hpos rfl ?_)
       | (refine CallI.of (s_mwhen g _ _) ?_)
       | (refine CallI.of hC ?_)
       | (refine CallI.of hW ?_)
       | (refine Cmp.tt hk ?_)
       | (refine Cmp.tt ha ?_)
       | (refine Cmp.tt hs ?_)
       | (refine Cmp.ff hd ?_)
       | (refine LoopW.to (hin (fun l h1 h2 => ?_) (fun l l1 c h1 h2 => ?_) (fun l x e k h1 h2 => ?_) (fun l l1 c x e k h1 h2 => ?_)) rfl rfl)
       | fail)
      ·refine ⟨?_⟩
       have ih := ih (none, l, i + 1) ⟨h2, by dsimp only; omega, by dsimp only; rw [hrd (by rw [h1]), h1, Nat.add_sub_cancel, ms_get hlt]⟩ (by dsimp only; omega)
       dsimp only at ih
       repeat' ((conv => whnf); first
       | refine Ya ?_ | refine Yb ?_ | refine Yc ?_ | refine Yd ?_ | refine Ye ?_ | refine Yf ?_ | refine Yg ?_ | refine Yh ?_ | refine Yi rfl ?_ | refine Yj rfl ?_ | refine Yk rfl ?_ | refine Yl rfl ?_
        | (refine LoopW.to ih rfl rfl))
      ·refine ⟨?_⟩
       have ih := ih (some (l1, c), l, i + 1) ⟨h2, by dsimp only; omega, by dsimp only; rw [hrd (by rw [h1]), h1, Nat.add_sub_cancel, ms_get hlt]⟩ (by dsimp only; omega)
       dsimp only at ih
       repeat' ((conv => whnf); first
       | refine Ya ?_ | refine Yb ?_ | refine Yc ?_ | refine Yd ?_ | refine Ye ?_ | refine Yf ?_ | refine Yg ?_ | refine Yh ?_ | refine Yi rfl ?_ | refine Yj rfl ?_ | refine Yk rfl ?_ | refine Yl rfl ?_
        | (refine Mt _ (Nat.beq_refl _) ?_)
        | ((refine Mt _ ?_ ?_); focus ((repeat' (first | exact mI_hit rfl | exact mI_hit (Nat.beq_refl _) | ((refine mI_skip ?h ?_); (case h => first | rfl | assumption)))); done))
        | ((refine Mf _ ?_ ?_); focus ((repeat' (first | exact rfl | ((refine mI_skip ?h ?_); (case h => first | rfl | assumption)))); done))
        | (refine LoopW.to ih rfl rfl))
      ·refine ⟨?_⟩
       have hb := hbad e h1 h2
       repeat' ((conv => whnf); first
       | refine Ya ?_ | refine Yb ?_ | refine Yc ?_ | refine Yd ?_ | refine Ye ?_ | refine Yf ?_ | refine Yg ?_ | refine Yh ?_ | refine Yi rfl ?_ | refine Yj rfl ?_ | refine Yk rfl ?_ | refine Yl rfl ?_
        | (refine Cmp.ff h1 ?_)
        | (refine Ret.mk hb))
      ·refine ⟨?_⟩
       have hb := hbad e h1 h2
       repeat' ((conv => whnf); first
       | refine Ya ?_ | refine Yb ?_ | refine Yc ?_ | refine Yd ?_ | refine Ye ?_ | refine Yf ?_ | refine Yg ?_ | refine Yh ?_ | refine Yi rfl ?_ | refine Yj rfl ?_ | refine Yk rfl ?_ | refine Yl rfl ?_
        | (refine Cmp.ff h1 ?_)
        | (refine Ret.mk hb))
     ·rw [if_neg hz] at hR
      rw [← hR]
      generalize msgE ms[0] ms[i - 1] ms[i] = e at *
      clear ih hr hmem
      by_cases hk : ms[i].ki = REQ <;> by_cases ha : ms[i].ai = ms[0].ai <;> by_cases hs : ms[i].se = ms[0].se <;> by_cases hd : ms[i].da < ms[i - 1].da
      all_goals
       first | rw [decide_eq_true hk] at hW | rw [decide_eq_false hk] at hW
       first | rw [decide_eq_true (show ms[i].ai = ms[0].ai ∧ ms[i].se = ms[0].se from ⟨ha, hs⟩)] at hW | rw [decide_eq_false (show ¬ (ms[i].ai = ms[0].ai ∧ ms[i].se = ms[0].se) from fun h => ha h.1)] at hW | rw [decide_eq_false (show ¬ (ms[i].ai = ms[0].ai ∧ ms[i].se = ms[0].se) from fun h => hs h.2)] at hW
       first | rw [decide_eq_true hd] at hW | rw [decide_eq_false hd] at hW
       repeat' ((conv => whnf); first
       | refine Ya ?_ | refine Yb ?_ | refine Yc ?_ | refine Yd ?_ | refine Ye ?_ | refine Yf ?_ | refine Yg ?_ | refine Yh ?_ | refine Yi rfl ?_ | refine Yj rfl ?_ | refine Yk rfl ?_ | refine Yl rfl ?_
        | (refine PickW.rec Mst.cells_length i rfl hlt ?_)
        | (refine PickW.rec Mst.cells_length (i - 1) (by omega) hp ?_)
        | (refine Pick.rec Mst.cells_length 0 rfl hpos rfl ?_)
        | (refine CallI.of (s_mwhen g _ _) ?_)
        | (refine CallI.of hC ?_)
        | (refine CallI.of hW ?_)
        | (refine Cmp.tt hk ?_)
        | (refine Cmp.ff hk ?_)
        | (refine Cmp.tt ha ?_)
        | (refine Cmp.ff ha ?_)
        | (refine Cmp.tt hs ?_)
        | (refine Cmp.ff hs ?_)
        | (refine Cmp.tt hd ?_)
        | (refine Cmp.ff hd ?_)
        | (refine Cmp.ff hz ?_)
        | (refine Ret.mk rfl))
    ·obtain rfl : i = ms.length := by omega
     rw [List.drop_length, reqG] at hR
     rw [← hR]
     repeat' ((conv => whnf); first
     | refine Ya ?_ | refine Yb ?_ | refine Yc ?_ | refine Yd ?_ | refine Ye ?_ | refine Yf ?_ | refine Yg ?_ | refine Yh ?_ | refine Yi rfl ?_ | refine Yj rfl ?_ | refine Yk rfl ?_ | refine Yl rfl ?_
      | (rw [if_pos (⟨rfl, rfl⟩ : _ ∧ _)])
      | (refine Ret.mk rfl))
   ·dsimp only at hout hi hr ih ⊢
    rw [hr] at hR
    by_cases hlt : i < ms.length
    ·have hp : i - 1 < ms.length := by omega
     have hmem := List.getElem_mem hlt
     have hC := s_CheckMessage g ms[i] (hls _ hmem)
     have hW := s_firstW g ms[0] ms[i - 1] ms[i] _ _ _ rfl rfl rfl
     rw [ms_get hp] at hR hr
     rw [reqG_drop hlt] at hR
     by_cases hz : msgE ms[0] ms[i - 1] ms[i] = 0
     ·rw [if_pos hz] at hR
      have hrd := fun (h2 : (linG ms[i].da out ms[i].ls).2 = 0) => by
       have e := hr
       rw [reqG_drop hlt, if_pos hz, if_pos h2] at e
       exact e
      rw [hz] at hW
      have hz' := hz
      unfold msgE at hz'
      rw [firstI_zero] at hz'
      have hzc := hz' (chkMs ms[i]) (by simp)
      have hk : ms[i].ki = REQ := Decidable.byContradiction fun hn => by have := hz' (if ms[i].ki = REQ then 0 else 13) (by simp); rw [if_neg hn] at this; cases this
      have hh : ms[i].ai = ms[0].ai ∧ ms[i].se = ms[0].se := Decidable.byContradiction fun hn => by have := hz' (if ms[i].ai = ms[0].ai ∧ ms[i].se = ms[0].se then 0 else 29) (by simp); rw [if_neg hn] at this; cases this
      have hd : ¬ ms[i].da < ms[i - 1].da := fun hn => by have := hz' (if ms[i].da < ms[i - 1].da then 11 else 0) (by simp); rw [if_pos hn] at this; cases this
      rw [decide_eq_true hk, decide_eq_true hh, decide_eq_false hd] at hW
      obtain ⟨ha, hs⟩ := hh
      have ok := plcOk_of ms[i].da ms[i].ls out none 0 (by have := (chkMs_ok.1 hzc).ok; rw [hk] at this; exact this) (fun y hy => by cases hy)
      generalize hres : linG ms[i].da out ms[i].ls = res at hR hrd
      have hin := fun {K} => s_lines1 g ms i ms[i] ms[i - 1] l1 d out hout (hls _ hmem) ok res hres (K := K)
      have hbad : ∀ e : Int, e ≠ 0 → res.2 = e → V.tup [LE [], I (i : Nat), I e] = R := fun e h1 h2 => by
       rw [if_neg (show ¬ res.2 = 0 by rw [h2]; exact h1), h2] at hR
       exact hR
      clear hz' hR ok hres
      repeat' ((conv => whnf); first
      | refine Ya ?_ | refine Yb ?_ | refine Yc ?_ | refine Yd ?_ | refine Ye ?_ | refine Yf ?_ | refine Yg ?_ | refine Yh ?_ | refine Yi rfl ?_ | refine Yj rfl ?_ | refine Yk rfl ?_ | refine Yl rfl ?_
       | (refine Mt _ (Nat.beq_refl _) ?_)
       | ((refine Mt _ ?_ ?_); focus ((repeat' (first | exact mI_hit rfl | exact mI_hit (Nat.beq_refl _) | ((refine mI_skip ?h ?_); (case h => first | rfl | assumption)))); done))
       | ((refine Mf _ ?_ ?_); focus ((repeat' (first | exact rfl | ((refine mI_skip ?h ?_); (case h => first | rfl | assumption)))); done))
       | (refine PickW.rec Mst.cells_length i rfl hlt ?_)
       | (refine PickW.rec Mst.cells_length (i - 1) (by omega) hp ?_)
       | (refine Pick.rec Mst.cells_length 0 rfl hpos rfl ?_)
       | (refine CallI.of (s_mwhen g _ _) ?_)
       | (refine CallI.of hC ?_)
       | (refine CallI.of hW ?_)
       | (refine Cmp.tt hk ?_)
       | (refine Cmp.tt ha ?_)
       | (refine Cmp.tt hs ?_)
       | (refine Cmp.ff hd ?_)
       | (refine LoopW.to (hin (fun l h1 h2 => ?_) (fun l l2 c h1 h2 h3 => ?_) (fun l x e k h1 h2 => ?_) (fun l l2 c x e k h1 h2 h3 => ?_)) rfl rfl)
       | fail)
      ·refine ⟨?_⟩
       have ih := ih (some (l1, d), l, i + 1) ⟨h2, by dsimp only; omega, by dsimp only; rw [hrd (by rw [h1]), h1, Nat.add_sub_cancel, ms_get hlt]⟩ (by dsimp only; omega)
       dsimp only at ih
       repeat' ((conv => whnf); first
       | refine Ya ?_ | refine Yb ?_ | refine Yc ?_ | refine Yd ?_ | refine Ye ?_ | refine Yf ?_ | refine Yg ?_ | refine Yh ?_ | refine Yi rfl ?_ | refine Yj rfl ?_ | refine Yk rfl ?_ | refine Yl rfl ?_
        | (refine Mt _ (Nat.beq_refl _) ?_)
        | ((refine Mt _ ?_ ?_); focus ((repeat' (first | exact mI_hit rfl | exact mI_hit (Nat.beq_refl _) | ((refine mI_skip ?h ?_); (case h => first | rfl | assumption)))); done))
        | ((refine Mf _ ?_ ?_); focus ((repeat' (first | exact rfl | ((refine mI_skip ?h ?_); (case h => first | rfl | assumption)))); done))
        | (refine LoopW.to ih rfl rfl))
      ·refine ⟨?_⟩
       have b1 : Nat.beq d c = false := beq_ne (by omega)
       have b2 : Nat.beq c d = false := beq_ne (by omega)
       have ih := ih (some (l1, c), l, i + 1) ⟨h2, by dsimp only; omega, by dsimp only; rw [hrd (by rw [h1]), h1, Nat.add_sub_cancel, ms_get hlt]⟩ (by dsimp only; omega)
       dsimp only at ih
       repeat' ((conv => whnf); first
       | refine Ya ?_ | refine Yb ?_ | refine Yc ?_ | refine Yd ?_ | refine Ye ?_ | refine Yf ?_ | refine Yg ?_ | refine Yh ?_ | refine Yi rfl ?_ | refine Yj rfl ?_ | refine Yk rfl ?_ | refine Yl rfl ?_
        | (refine Mt _ (Nat.beq_refl _) ?_)
        | (refine Mf _ b1 ?_)
        | (refine Mf _ b2 ?_)
        | ((refine Mt _ ?_ ?_); focus ((repeat' (first | exact mI_hit rfl | exact mI_hit (Nat.beq_refl _) | ((refine mI_skip ?h ?_); (case h => first | rfl | assumption)))); done))
        | ((refine Mf _ ?_ ?_); focus ((repeat' (first | exact rfl | ((refine mI_skip ?h ?_); (case h => first | rfl | assumption)))); done))
        | (refine LoopW.to ih rfl rfl))
      ·refine ⟨?_⟩
       have hb := hbad e h1 h2
       repeat' ((conv => whnf); first
       | refine Ya ?_ | refine Yb ?_ | refine Yc ?_ | refine Yd ?_ | refine Ye ?_ | refine Yf ?_ | refine Yg ?_ | refine Yh ?_ | refine Yi rfl ?_ | refine Yj rfl ?_ | refine Yk rfl ?_ | refine Yl rfl ?_
        | (refine Cmp.ff h1 ?_)
        | (refine Ret.mk hb))
      ·refine ⟨?_⟩
       have hb := hbad e h1 h2
       repeat' ((conv => whnf); first
       | refine Ya ?_ | refine Yb ?_ | refine Yc ?_ | refine Yd ?_ | refine Ye ?_ | refine Yf ?_ | refine Yg ?_ | refine Yh ?_ | refine Yi rfl ?_ | refine Yj rfl ?_ | refine Yk rfl ?_ | refine Yl rfl ?_
        | (refine Cmp.ff h1 ?_)
        | (refine Ret.mk hb))
     ·rw [if_neg hz] at hR
      rw [← hR]
      generalize msgE ms[0] ms[i - 1] ms[i] = e at *
      clear ih hr hmem
      by_cases hk : ms[i].ki = REQ <;> by_cases ha : ms[i].ai = ms[0].ai <;> by_cases hs : ms[i].se = ms[0].se <;> by_cases hd : ms[i].da < ms[i - 1].da
      all_goals
       first | rw [decide_eq_true hk] at hW | rw [decide_eq_false hk] at hW
       first | rw [decide_eq_true (show ms[i].ai = ms[0].ai ∧ ms[i].se = ms[0].se from ⟨ha, hs⟩)] at hW | rw [decide_eq_false (show ¬ (ms[i].ai = ms[0].ai ∧ ms[i].se = ms[0].se) from fun h => ha h.1)] at hW | rw [decide_eq_false (show ¬ (ms[i].ai = ms[0].ai ∧ ms[i].se = ms[0].se) from fun h => hs h.2)] at hW
       first | rw [decide_eq_true hd] at hW | rw [decide_eq_false hd] at hW
       repeat' ((conv => whnf); first
       | refine Ya ?_ | refine Yb ?_ | refine Yc ?_ | refine Yd ?_ | refine Ye ?_ | refine Yf ?_ | refine Yg ?_ | refine Yh ?_ | refine Yi rfl ?_ | refine Yj rfl ?_ | refine Yk rfl ?_ | refine Yl rfl ?_
        | (refine Mt _ (Nat.beq_refl _) ?_)
        | ((refine Mt _ ?_ ?_); focus ((repeat' (first | exact mI_hit rfl | exact mI_hit (Nat.beq_refl _) | ((refine mI_skip ?h ?_); (case h => first | rfl | assumption)))); done))
        | ((refine Mf _ ?_ ?_); focus ((repeat' (first | exact rfl | ((refine mI_skip ?h ?_); (case h => first | rfl | assumption)))); done))
        | (refine PickW.rec Mst.cells_length i rfl hlt ?_)
        | (refine PickW.rec Mst.cells_length (i - 1) (by omega) hp ?_)
        | (refine Pick.rec Mst.cells_length 0 rfl hpos rfl ?_)
        | (refine CallI.of (s_mwhen g _ _) ?_)
        | (refine CallI.of hC ?_)
        | (refine CallI.of hW ?_)
        | (refine Cmp.tt hk ?_)
        | (refine Cmp.ff hk ?_)
        | (refine Cmp.tt ha ?_)
        | (refine Cmp.ff ha ?_)
        | (refine Cmp.tt hs ?_)
        | (refine Cmp.ff hs ?_)
        | (refine Cmp.tt hd ?_)
        | (refine Cmp.ff hd ?_)
        | (refine Cmp.ff hz ?_)
        | (refine Ret.mk rfl))
    ·obtain rfl : i = ms.length := by omega
     rw [List.drop_length, reqG] at hR
     rw [← hR]
     repeat' ((conv => whnf); first
     | refine Ya ?_ | refine Yb ?_ | refine Yc ?_ | refine Yd ?_ | refine Ye ?_ | refine Yf ?_ | refine Yg ?_ | refine Yh ?_ | refine Yi rfl ?_ | refine Yj rfl ?_ | refine Yk rfl ?_ | refine Yl rfl ?_
      | (rw [if_pos (⟨rfl, rfl⟩ : _ ∧ _)])
      | (refine Mt _ (Nat.beq_refl _) ?_)
      | ((refine Mt _ ?_ ?_); focus ((repeat' (first | exact mI_hit rfl | exact mI_hit (Nat.beq_refl _) | ((refine mI_skip ?h ?_); (case h => first | rfl | assumption)))); done))
      | ((refine Mf _ ?_ ?_); focus ((repeat' (first | exact rfl | ((refine mI_skip ?h ?_); (case h => first | rfl | assumption)))); done))
      | (refine Ret.mk rfl))
end
end Go.Proofs.YtlnlcdnpgjhaaabGreatDoor.Co
/-
 Messages as a law's parameters; short ones; messages of the reference as the program's.
-/
namespace Go.Proofs.YtlnlcdnpgjhaaabGreatDoor.Co
open Go Go.Evl
set_option maxRecDepth 100000
theorem fit_Lines {k : Nat} : ∀ (m : Nat) {ds : List D}, fitAll (fit Tryz.prog (k + 4)) (List.replicate m 101) ds → ∃ l : List Lnt, ds = l.flatMap Lnt.cells ∧ l.length = m
 | 0, ds, h => ⟨[], h, rfl⟩
 | m + 1, ds, h => by
  obtain ⟨a, b, rfl, h1, h2⟩ := h
  obtain ⟨x, rfl⟩ := fit_Line h1
  obtain ⟨l, rfl, h3⟩ := fit_Lines m h2
  exact ⟨x :: l, rfl, by simp [h3]⟩
def okLn (l : Lnt) : Bool := decide (l.ac.length ≤ 40) && briefB l.rq
def shortB (ls : List Lnt) (n : Nat) : Bool := decide (ls.length ≤ n ∨ ls.length = 65) && ls.all okLn
def shortM (m : Mst) (n : Nat) : Bool := decide (m.ki.length ≤ 40 ∧ m.ai.length ≤ 40 ∧ m.se.length ≤ 40) && shortB m.ls n
theorem shortM_len {m : Mst} {n : Nat} (hn : n ≤ 64) (h : shortM m n = true) : m.ls.length ≤ 65 := by
 simp only [shortM, shortB, Bool.and_eq_true, decide_eq_true_eq] at h
 omega
theorem all_no {ls : List Lnt} {p : Lnt → Bool} {k : Nat} (hk : k < ls.length) (h : p ls[k] = false) : ls.all p = false := by
 rw [List.all_eq_false]
 exact ⟨_, List.getElem_mem hk, by rw [h]; decide⟩
section
variable {E : Oracle} (g : Good E)
include g
set_option maxHeartbeats 4000000 in
theorem r_ShortLines (ls : List Lnt) (n : Nat) (hn : n ≤ 64) : Fc E n_ref02_ShortLines [LL ls, I n] (B (shortB ls n)) := by
 refine g.fn code_ref02_ShortLines rfl ?_
 unfold shortB
 by_cases hl : ls.length ≤ n ∨ ls.length = 65
 ·rw [decide_eq_true hl, Bool.true_and]
  repeat' ((conv => whnf); first
  | refine Ya ?_ | refine Yb ?_ | refine Yc ?_ | refine Yd ?_ | refine Ye ?_ | refine Yf ?_ | refine Yg ?_ | refine Yh ?_ | refine Yi rfl ?_ | refine Yj rfl ?_ | refine Yk rfl ?_ | refine Yl rfl ?_
   | (refine Cmp.mk (fun h => ?_) (fun h => ?_)) | (refine Rem.any (by omega) (fun r hr he => ?_)) | (refine Br.mk (fun h => ?_) (fun h => ?_))
   | (exfalso; omega))
  all_goals
   refine LoopW.to (LoopW.upP g (fun k => [(0, LL ls), (5, I k)]) (fun _ => []) (fun k => ∀ i (h : i < ls.length), i < k → okLn ls[i] = true) ls.length (fun k hk hp ih => ?_) 0 (Nat.zero_le _) (fun i _ hi => absurd hi (Nat.not_lt_zero _))) rfl rfl
   by_cases hlt : k < ls.length
   ·have hb := r_Brief g ls[k].rq
    have hno : okLn ls[k] = false → ls.all okLn = false := all_no hlt
    have ih := fun e : okLn ls[k] = true => ih hlt fun i h hi => by
     by_cases e' : i = k
     ·subst e'; exact e
     ·exact hp i h (by omega)
    by_cases ha : ls[k].ac.length ≤ 40
    ·cases hq : briefB ls[k].rq
     ·rw [hno (by simp [okLn, hq])]
      rw [hq] at hb
      repeat' ((conv => whnf); first
      | refine Ya ?_ | refine Yb ?_ | refine Yc ?_ | refine Yd ?_ | refine Ye ?_ | refine Yf ?_ | refine Yg ?_ | refine Yh ?_ | refine Yi rfl ?_ | refine Yj rfl ?_ | refine Yk rfl ?_ | refine Yl rfl ?_
       | (refine Pick.rec Lnt.cells_length k rfl hlt rfl ?_)
       | (refine PickW.part Lnt.cells_length k rfl hlt (by decide) rfl ?_)
       | (refine CallI.of hb ?_)
       | (refine Ret.mk rfl))
     ·rw [hq] at hb
      have ih := ih (by simp [okLn, hq, ha])
      repeat' ((conv => whnf); first
      | refine Ya ?_ | refine Yb ?_ | refine Yc ?_ | refine Yd ?_ | refine Ye ?_ | refine Yf ?_ | refine Yg ?_ | refine Yh ?_ | refine Yi rfl ?_ | refine Yj rfl ?_ | refine Yk rfl ?_ | refine Yl rfl ?_
       | (refine Pick.rec Lnt.cells_length k rfl hlt rfl ?_)
       | (refine PickW.part Lnt.cells_length k rfl hlt (by decide) rfl ?_)
       | (refine CallI.of hb ?_)
       | (refine LoopW.to ih rfl rfl))
    ·rw [hno (by simp [okLn, ha])]
     repeat' ((conv => whnf); first
     | refine Ya ?_ | refine Yb ?_ | refine Yc ?_ | refine Yd ?_ | refine Ye ?_ | refine Yf ?_ | refine Yg ?_ | refine Yh ?_ | refine Yi rfl ?_ | refine Yj rfl ?_ | refine Yk rfl ?_ | refine Yl rfl ?_
      | (refine Pick.rec Lnt.cells_length k rfl hlt rfl ?_)
      | (refine Ret.mk rfl))
   ·have hall : ls.all okLn = true := List.all_eq_true.2 fun x hx => by
     obtain ⟨i, hi, rfl⟩ := List.getElem_of_mem hx
     exact hp i hi (by omega)
    rw [hall]
    repeat' ((conv => whnf); first
    | refine Ya ?_ | refine Yb ?_ | refine Yc ?_ | refine Yd ?_ | refine Ye ?_ | refine Yf ?_ | refine Yg ?_ | refine Yh ?_ | refine Yi rfl ?_ | refine Yj rfl ?_ | refine Yk rfl ?_ | refine Yl rfl ?_
     | (refine Ret.mk rfl))
 ·rw [decide_eq_false hl, Bool.false_and]
  repeat' ((conv => whnf); first
  | refine Ya ?_ | refine Yb ?_ | refine Yc ?_ | refine Yd ?_ | refine Ye ?_ | refine Yf ?_ | refine Yg ?_ | refine Yh ?_ | refine Yi rfl ?_ | refine Yj rfl ?_ | refine Yk rfl ?_ | refine Yl rfl ?_
   | (refine Cmp.mk (fun h => ?_) (fun h => ?_)) | (refine Rem.any (by omega) (fun r hr he => ?_)) | (refine Br.mk (fun h => ?_) (fun h => ?_))
   | (refine Ret.mk rfl)
   | (exfalso; omega))
theorem r_ShortMessage (m : Mst) (n : Nat) (hn : n ≤ 64) : Fc E n_ref02_ShortMessage [Msv m, I n] (B (shortM m n)) := by
 refine g.fn code_ref02_ShortMessage rfl ?_
 have hb := r_ShortLines g m.ls n hn
 unfold shortM
 by_cases h1 : m.ki.length ≤ 40
 ·by_cases h2 : m.ai.length ≤ 40
  ·by_cases h3 : m.se.length ≤ 40
   ·rw [decide_eq_true ⟨h1, h2, h3⟩, Bool.true_and]
    repeat' ((conv => whnf); first
    | refine Ya ?_ | refine Yb ?_ | refine Yc ?_ | refine Yd ?_ | refine Ye ?_ | refine Yf ?_ | refine Yg ?_ | refine Yh ?_ | refine Yi rfl ?_ | refine Yj rfl ?_ | refine Yk rfl ?_ | refine Yl rfl ?_
     | (refine CallI.of hb ?_)
     | (refine Ret.mk rfl))
   ·rw [decide_eq_false fun h => h3 h.2.2, Bool.false_and]
    repeat' ((conv => whnf); first
    | refine Ya ?_ | refine Yb ?_ | refine Yc ?_ | refine Yd ?_ | refine Ye ?_ | refine Yf ?_ | refine Yg ?_ | refine Yh ?_ | refine Yi rfl ?_ | refine Yj rfl ?_ | refine Yk rfl ?_ | refine Yl rfl ?_
     | (refine Ret.mk rfl))
  ·rw [decide_eq_false fun h => h2 h.2.1, Bool.false_and]
   repeat' ((conv => whnf); first
   | refine Ya ?_ | refine Yb ?_ | refine Yc ?_ | refine Yd ?_ | refine Ye ?_ | refine Yf ?_ | refine Yg ?_ | refine Yh ?_ | refine Yi rfl ?_ | refine Yj rfl ?_ | refine Yk rfl ?_ | refine Yl rfl ?_
    | (refine Ret.mk rfl))
 ·rw [decide_eq_false fun h => h1 h.1, Bool.false_and]
  repeat' ((conv => whnf); first
  | refine Ya ?_ | refine Yb ?_ | refine Yc ?_ | refine Yd ?_ | refine Ye ?_ | refine Yf ?_ | refine Yg ?_ | refine Yh ?_ | refine Yi rfl ?_ | refine Yj rfl ?_ | refine Yk rfl ?_ | refine Yl rfl ?_
   | (refine Ret.mk rfl))
set_option maxHeartbeats 4000000 in
theorem w_lines (ls : List Lnt) (hl : ls.length ≤ 1000000) : Fc E n_law02_lines [LL ls] (LL ls) := by
 refine g.fn code_law02_lines rfl ?_
 repeat' ((conv => whnf); first
 | refine Ya ?_ | refine Yb ?_ | refine Yc ?_ | refine Yd ?_ | refine Ye ?_ | refine Yf ?_ | refine Yg ?_ | refine Yh ?_ | refine Yi rfl ?_ | refine Yj rfl ?_ | refine Yk rfl ?_ | refine Yl rfl ?_)
 refine LoopW.to (LoopW.up g (fun k => [(3, .ref ⟨0, 3, 0⟩ 0 k k), (6, LL ls), (7, I ls.length), (8, I k)]) (fun k => [(⟨0, 2, 0⟩, .row false ty_message_Line 14 0 []), (⟨0, 3, 0⟩, .row false ty_message_Line 14 k ((ls.take k).flatMap Lnt.cells))]) ls.length (fun k hk ih => ?_) 0 (Nat.zero_le _)) rfl rfl
 by_cases hlt : k < ls.length
 ·have hf := flatR_take Lnt.cells ls k hlt
  have ih := ih hlt
  rw [hf] at ih
  repeat' ((conv => whnf); first
  | refine Ya ?_ | refine Yb ?_ | refine Yc ?_ | refine Yd ?_ | refine Ye ?_ | refine Yf ?_ | refine Yg ?_ | refine Yh ?_ | refine Yi rfl ?_ | refine Yj rfl ?_ | refine Yk rfl ?_ | refine Yl rfl ?_
   | (refine PickW.rec Lnt.cells_length k rfl hlt ?_)
   | (refine Need.mk (by simp; omega) ?_)
   | (refine LoopW.to ih rfl rfl))
 ·obtain rfl : k = ls.length := by omega
  rw [List.take_length]
  repeat' ((conv => whnf); first
  | refine Ya ?_ | refine Yb ?_ | refine Yc ?_ | refine Yd ?_ | refine Ye ?_ | refine Yf ?_ | refine Yg ?_ | refine Yh ?_ | refine Yi rfl ?_ | refine Yj rfl ?_ | refine Yk rfl ?_ | refine Yl rfl ?_
   | (refine Ret.mk ?_))
  rw [if_pos ⟨rfl, rfl⟩]
theorem w_program (m : Mst) (hl : m.ls.length ≤ 1000000) : Fc E n_law02_program [Msv m] (Msv m) := by
 refine g.fn code_law02_program rfl ?_
 have h := w_lines g m.ls hl
 repeat' ((conv => whnf); first
 | refine Ya ?_ | refine Yb ?_ | refine Yc ?_ | refine Yd ?_ | refine Ye ?_ | refine Yf ?_ | refine Yg ?_ | refine Yh ?_ | refine Yi rfl ?_ | refine Yj rfl ?_ | refine Yk rfl ?_ | refine Yl rfl ?_
  | (refine CallI.of h ?_)
  | (refine Ret.mk rfl))
end
end Go.Proofs.YtlnlcdnpgjhaaabGreatDoor.Co
/-
 The document's examples come out: each call computed by the kernel, then the walk through them.
-/
namespace Go.Proofs.YtlnlcdnpgjhaaabGreatDoor.Co
open Go Go.Evl
section
variable {E : Oracle} (g : Good E)
include g
set_option maxRecDepth 100000
theorem aw1 : Fc E n_law02_sample [] (.d (.agg [.str [113, 49], .str [97, 98], .str [65], .str [116, 49], .str [102, 97, 114], .str [], DI 8900, DI 8920, DI 5, DI 605, DI 180, DI 4, DI 12])) := g.compR 1000 (by decide +kernel)
theorem aw2 : Fc E n_message_PrintMinute [I 605] (.tup [S [49, 48, 48, 53], I 0]) := g.compR 1000 (by decide +kernel)
theorem aw3 : Fc E n_message_ParseMinute [S [48, 48, 48, 53]] (.tup [I 5, I 0]) := g.compR 1000 (by decide +kernel)
theorem aw4 : Fc E n_message_ParseMinute [S [50, 52, 48, 48]] (.tup [I 0, I 25]) := g.compR 1000 (by decide +kernel)
theorem aw5 : Fc E n_message_PrintLine [.d (.agg [.str [78], .str [113, 49], .str [97, 98], .str [65], .str [116, 49], .str [102, 97, 114], .str [], DI 8900, DI 8920, DI 5, DI 605, DI 180, DI 4, DI 12])] (.tup [S [78, 32, 97, 98, 32, 113, 49, 32, 65, 32, 102, 97, 114, 32, 48, 56, 57, 48, 48, 32, 48, 56, 57, 50, 48, 32, 49, 48, 51, 48, 48, 48, 48, 32, 49, 48, 48, 53, 32, 49, 56, 48, 32, 52, 32, 49, 50, 32, 116, 49, 32, 45], I 0]) := g.compR 1000 (by decide +kernel)
theorem aw6 : Fc E n_message_ParseLine [S [78, 32, 97, 98, 32, 113, 49, 32, 65, 32, 102, 97, 114, 32, 48, 56, 57, 48, 48, 32, 48, 56, 57, 50, 48, 32, 49, 48, 51, 48, 48, 48, 48, 32, 49, 48, 48, 53, 32, 49, 56, 48, 32, 52, 32, 49, 50, 32, 116, 49, 32, 45]] (.tup [.d (.agg [.str [78], .str [113, 49], .str [97, 98], .str [65], .str [116, 49], .str [102, 97, 114], .str [], DI 8900, DI 8920, DI 5, DI 605, DI 180, DI 4, DI 12]), I 0, I 0]) := g.compR 1000 (by decide +kernel)
theorem aw7 : Fc E n_message_PrintMessage [.d (.agg [.str [82, 69, 81], .str [104, 101, 114, 101], .str [83, 50, 48, 50, 52], DI 8800, .list 1 [.str [78], .str [113, 49], .str [97, 98], .str [65], .str [116, 49], .str [102, 97, 114], .str [], DI 8900, DI 8920, DI 5, DI 605, DI 180, DI 4, DI 12]])] (.tup [S [83, 76, 79, 84, 83, 32, 82, 69, 81, 32, 104, 101, 114, 101, 32, 83, 50, 48, 50, 52, 32, 48, 56, 56, 48, 48, 10, 78, 32, 97, 98, 32, 113, 49, 32, 65, 32, 102, 97, 114, 32, 48, 56, 57, 48, 48, 32, 48, 56, 57, 50, 48, 32, 49, 48, 51, 48, 48, 48, 48, 32, 49, 48, 48, 53, 32, 49, 56, 48, 32, 52, 32, 49, 50, 32, 116, 49, 32, 45, 10, 69, 78, 68, 32, 48, 49, 10], I 0]) := g.compR 1000 (by decide +kernel)
theorem aw8 : Fc E n_message_ParseMessage [S [83, 76, 79, 84, 83, 32, 82, 69, 81, 32, 104, 101, 114, 101, 32, 83, 50, 48, 50, 52, 32, 48, 56, 56, 48, 48, 10, 78, 32, 97, 98, 32, 113, 49, 32, 65, 32, 102, 97, 114, 32, 48, 56, 57, 48, 48, 32, 48, 56, 57, 50, 48, 32, 49, 48, 51, 48, 48, 48, 48, 32, 49, 48, 48, 53, 32, 49, 56, 48, 32, 52, 32, 49, 50, 32, 116, 49, 32, 45, 10, 69, 78, 68, 32, 48, 50, 10]] (.tup [.d (.agg [.str [], .str [], .str [], DI 0, .list 0 []]), I 2, I 27]) := g.compR 1000 (by decide +kernel)
theorem aw9 : Fc E n_message_ParseMessage [S [83, 76, 79, 84, 83, 32, 82, 69, 81, 32, 104, 101, 114, 101, 32, 83, 50, 48, 50, 52, 32, 48, 56, 56, 48, 48, 10, 78, 32, 97, 98, 32, 113, 49, 32, 65, 32, 102, 97, 114, 32, 48, 56, 57, 48, 48, 32, 48, 56, 57, 50, 48, 32, 49, 48, 51, 48, 48, 48, 48, 32, 49, 48, 48, 53, 32, 49, 56, 48, 32, 52, 32, 49, 50, 32, 116, 49, 32, 45, 10]] (.tup [.d (.agg [.str [], .str [], .str [], DI 0, .list 0 []]), I 2, I 28]) := g.compR 1000 (by decide +kernel)
theorem aw10 : Fc E n_message_ParseMessage [S [83, 76, 79, 84, 83, 32, 82, 69, 81, 32, 104, 101, 114, 101, 32, 83, 50, 48, 50, 52, 32, 48, 56, 56, 48, 48, 10, 78, 32, 97, 98, 32, 113, 49, 32, 65, 32, 102, 97, 114, 32, 48, 56, 57, 48, 48, 32, 48, 56, 57, 50, 48, 32, 49, 48, 51, 48, 48, 48, 48, 32, 49, 48, 48, 53, 32, 49, 56, 48, 32, 52, 32, 49, 50, 32, 116, 49, 32, 45, 10, 69, 78, 68, 32, 48, 49, 10]] (.tup [.d (.agg [.str [82, 69, 81], .str [104, 101, 114, 101], .str [83, 50, 48, 50, 52], DI 8800, .list 1 [.str [78], .str [113, 49], .str [97, 98], .str [65], .str [116, 49], .str [102, 97, 114], .str [], DI 8900, DI 8920, DI 5, DI 605, DI 180, DI 4, DI 12]]), I 0, I 0]) := g.compR 1000 (by decide +kernel)
theorem aw11 : Fc E n_message_Requests [.d (.list 2 [.str [82, 69, 81], .str [104, 101, 114, 101], .str [83, 50, 48, 50, 52], DI 8800, .list 1 [.str [78], .str [113, 49], .str [97, 98], .str [65], .str [116, 49], .str [102, 97, 114], .str [], DI 8900, DI 8920, DI 5, DI 605, DI 180, DI 4, DI 12], .str [82, 69, 81], .str [104, 101, 114, 101], .str [83, 50, 48, 50, 52], DI 8800, .list 2 [.str [67], .str [113, 49], .str [97, 98], .str [65], .str [116, 49], .str [102, 97, 114], .str [], DI 8900, DI 8920, DI 5, DI 605, DI 180, DI 4, DI 12, .str [82], .str [113, 49], .str [97, 98], .str [65], .str [116, 49], .str [102, 97, 114], .str [], DI 8900, DI 8920, DI 5, DI 615, DI 180, DI 4, DI 12]])] (.tup [.d (.list 1 [.str [113, 49], .str [97, 98], .str [65], .str [116, 49], .str [102, 97, 114], .str [], DI 8900, DI 8920, DI 5, DI 615, DI 180, DI 4, DI 12, .bool false, DI 8800]), I 0, I 0]) := g.compR 1000 (by decide +kernel)
theorem aw12 : Fc E n_message_Requests [.d (.list 3 [.str [82, 69, 81], .str [104, 101, 114, 101], .str [83, 50, 48, 50, 52], DI 8800, .list 1 [.str [78], .str [113, 49], .str [97, 98], .str [65], .str [116, 49], .str [102, 97, 114], .str [], DI 8900, DI 8920, DI 5, DI 605, DI 180, DI 4, DI 12], .str [82, 69, 81], .str [104, 101, 114, 101], .str [83, 50, 48, 50, 52], DI 8800, .list 2 [.str [67], .str [113, 49], .str [97, 98], .str [65], .str [116, 49], .str [102, 97, 114], .str [], DI 8900, DI 8920, DI 5, DI 605, DI 180, DI 4, DI 12, .str [82], .str [113, 49], .str [97, 98], .str [65], .str [116, 49], .str [102, 97, 114], .str [], DI 8900, DI 8920, DI 5, DI 615, DI 180, DI 4, DI 12], .str [82, 69, 81], .str [104, 101, 114, 101], .str [83, 50, 48, 50, 52], DI 8800, .list 1 [.str [68], .str [113, 49], .str [97, 98], .str [65], .str [116, 49], .str [102, 97, 114], .str [], DI 8900, DI 8920, DI 5, DI 605, DI 180, DI 4, DI 12]])] (.tup [.d (.list 0 []), I 2, I 29]) := g.compR 1000 (by decide +kernel)
theorem aw13 : Fc E n_message_Answers [S [104, 101, 114, 101], S [83, 50, 48, 50, 52], I 8801, .d (.list 1 [.str [113, 49], .str [97, 98], .str [65], .str [116, 49], .str [102, 97, 114], .str [], DI 8900, DI 8920, DI 5, DI 605, DI 180, DI 4, DI 12]), .d (.list 1 [.str [113, 49], .bool true, DI 615])] (.tup [.d (.agg [.str [65, 78, 83], .str [104, 101, 114, 101], .str [83, 50, 48, 50, 52], DI 8801, .list 1 [.str [79], .str [113, 49], .str [97, 98], .str [65], .str [116, 49], .str [102, 97, 114], .str [], DI 8900, DI 8920, DI 5, DI 615, DI 180, DI 4, DI 12]]), I 0]) := g.compR 1000 (by decide +kernel)
theorem aw14 : Fc E n_message_Results [.d (.agg [.str [65, 78, 83], .str [104, 101, 114, 101], .str [83, 50, 48, 50, 52], DI 8801, .list 1 [.str [79], .str [113, 49], .str [97, 98], .str [65], .str [116, 49], .str [102, 97, 114], .str [], DI 8900, DI 8920, DI 5, DI 615, DI 180, DI 4, DI 12]])] (.tup [.d (.list 1 [.str [113, 49], .bool true, DI 615]), I 0]) := g.compR 1000 (by decide +kernel)
theorem aw15 : Fc E n_message_Changed [.d (.list 1 [.str [113, 49], .str [97, 98], .str [65], .str [116, 49], .str [102, 97, 114], .str [], DI 8900, DI 8920, DI 5, DI 605, DI 180, DI 4, DI 12]), .d (.list 2 [.str [113, 49], .str [97, 98], .str [65], .str [116, 49], .str [102, 97, 114], .str [], DI 8900, DI 8920, DI 5, DI 615, DI 180, DI 4, DI 12, .str [113, 50], .str [97, 98], .str [65], .str [116, 49], .str [102, 97, 114], .str [], DI 8900, DI 8920, DI 5, DI 605, DI 180, DI 4, DI 12])] (.tup [.d (.list 3 [.str [67], .str [113, 49], .str [97, 98], .str [65], .str [116, 49], .str [102, 97, 114], .str [], DI 8900, DI 8920, DI 5, DI 605, DI 180, DI 4, DI 12, .str [82], .str [113, 49], .str [97, 98], .str [65], .str [116, 49], .str [102, 97, 114], .str [], DI 8900, DI 8920, DI 5, DI 615, DI 180, DI 4, DI 12, .str [78], .str [113, 50], .str [97, 98], .str [65], .str [116, 49], .str [102, 97, 114], .str [], DI 8900, DI 8920, DI 5, DI 605, DI 180, DI 4, DI 12]), I 0]) := g.compR 1000 (by decide +kernel)
set_option maxHeartbeats 4000000 in
theorem s_awake : Fc E n_law02_awake [] (B true) := by
 refine g.fn code_law02_awake rfl ?_
 repeat' ((conv => whnf); first
 | refine Ya ?_ | refine Yb ?_ | refine Yc ?_ | refine Yd ?_ | refine Ye ?_ | refine Yf ?_ | refine Yg ?_ | refine Yh ?_ | refine Yi rfl ?_ | refine Yj rfl ?_ | refine Yk rfl ?_ | refine Yl rfl ?_
  | (apply CallI.of; first | exact aw1 g | exact aw2 g | exact aw3 g | exact aw4 g | exact aw5 g | exact aw6 g | exact aw7 g | exact aw8 g | exact aw9 g | exact aw10 g | exact aw11 g | exact aw12 g | exact aw13 g | exact aw14 g | exact aw15 g)
  | (refine Need.mk (by simp only [maxStr, List.length_cons, List.length_nil, List.length_append]; omega) ?_)
  | (exact Ret.mk rfl))
end
end Go.Proofs.YtlnlcdnpgjhaaabGreatDoor.Co
/-
 MessageLeaves returns true, for all lists of messages.
-/
namespace Go.Proofs.YtlnlcdnpgjhaaabGreatDoor.Co
open Go Go.Evl
set_option maxRecDepth 100000
theorem fit_Message {k : Nat} {ds : List D} (h : fit Tryz.prog (k + 6) 27 ds) : ∃ m : Mst, ds = m.cells := by
 obtain ⟨_, _, rfl, h1, _, _, rfl, h2, _, _, rfl, h3, _, _, rfl, h4, _, _, rfl, h5, rfl⟩ := fit_st Tryz.underlying27 h
 obtain ⟨ki, rfl⟩ := fit_str h1
 obtain ⟨ai, rfl⟩ := fit_str h2
 obtain ⟨se, rfl⟩ := fit_str h3
 obtain ⟨da, rfl, _⟩ := fit_int h4
 obtain ⟨m, cs, rfl, _, h6⟩ := fit_l Tryz.underlying25 h5
 obtain ⟨ls, rfl, rfl⟩ := fit_Lines m h6
 exact ⟨⟨ki, ai, se, da, ls⟩, rfl⟩
theorem fit_Messages {k : Nat} : ∀ (m : Nat) {ds : List D}, fitAll (fit Tryz.prog (k + 6)) (List.replicate m 27) ds → ∃ l : List Mst, ds = l.flatMap Mst.cells ∧ l.length = m
 | 0, ds, h => ⟨[], h, rfl⟩
 | m + 1, ds, h => by
  obtain ⟨a, b, rfl, h1, h2⟩ := h
  obtain ⟨x, rfl⟩ := fit_Message h1
  obtain ⟨l, rfl, h3⟩ := fit_Messages m h2
  exact ⟨x :: l, rfl, by simp [h3]⟩
theorem arg_Messages {x : D} (h : fitArg Tryz.prog 22 x) : ∃ l : List Mst, x = .list l.length (l.flatMap Mst.cells) := by
 obtain ⟨m, cs, rfl, _, h6⟩ := arg_l Tryz.underlying22 h
 obtain ⟨l, rfl, rfl⟩ := fit_Messages m h6
 exact ⟨l, rfl⟩
theorem stpL_grow (l : List Ent) (x : Lnt) (da : Int) : (stpL l x da).length ≤ l.length + 1 := by
 unfold stpL
 split
 ·simp
 ·split
  ·simp
  ·split
   ·have := List.length_eraseIdx_le l (by assumption); omega
   ·omega
theorem linG_grow (da : Int) : ∀ (ls : List Lnt) (l : List Ent), (linG da l ls).1.length ≤ l.length + ls.length
 | [], l => by simp [linG]
 | x :: r, l => by
  rw [linG]
  split
  ·have h1 := linG_grow da r (stpL l x da)
   have h2 := stpL_grow l x da
   rw [List.length_cons]
   omega
  ·dsimp only; omega
theorem reqG_grow (f : Mst) : ∀ (ms : List Mst) (p : Mst) (i : Nat) (l : List Ent), (∀ m ∈ ms, m.ls.length ≤ 65) → (reqG f p i l ms).1.length ≤ l.length + 65 * ms.length
 | [], p, i, l, _ => by simp [reqG]
 | m :: r, p, i, l, h => by
  rw [reqG]
  have hm := h m (List.mem_cons_self ..)
  split
  ·split
   ·have h1 := reqG_grow f r m (i + 1) (linG m.da l m.ls).1 fun x hx => h x (List.mem_cons_of_mem _ hx)
    have h2 := linG_grow m.da m.ls l
    rw [List.length_cons]
    omega
   ·simp
  ·simp
theorem reqs_grow (ms : List Mst) (h : ∀ m ∈ ms, m.ls.length ≤ 65) (hl : ms.length ≤ 65) : (reqs ms).1.length ≤ 1000000 := by
 unfold reqs
 split
 ·simp
 ·split
  ·simp
  ·rename_i f r _
   have := reqG_grow f (f :: r) f 0 [] h
   simp only [List.length_nil] at this
   omega
section
variable {E : Oracle} (g : Good E)
include g
set_option maxHeartbeats 4000000 in
theorem w_ownEntries (l : List Ent) (hl : l.length ≤ 1000000) : Fc E n_law02_ownEntries [LE l] (LE l) := by
 refine g.fn code_law02_ownEntries rfl ?_
 repeat' ((conv => whnf); first
 | refine Ya ?_ | refine Yb ?_ | refine Yc ?_ | refine Yd ?_ | refine Ye ?_ | refine Yf ?_ | refine Yg ?_ | refine Yh ?_ | refine Yi rfl ?_ | refine Yj rfl ?_ | refine Yk rfl ?_ | refine Yl rfl ?_)
 refine LoopW.to (LoopW.up g (fun k => [(3, .ref ⟨0, 3, 0⟩ 0 k k), (6, LE l), (7, I l.length), (8, I k)]) (fun k => [(⟨0, 2, 0⟩, .row false ty_turnroundref02_Entry 15 0 []), (⟨0, 3, 0⟩, .row false ty_turnroundref02_Entry 15 k ((l.take k).flatMap Ent.cells))]) l.length (fun k hk ih => ?_) 0 (Nat.zero_le _)) rfl rfl
 by_cases hlt : k < l.length
 ·have hf := flatR_take Ent.cells l k hlt
  have ih := ih hlt
  rw [hf] at ih
  repeat' ((conv => whnf); first
  | refine Ya ?_ | refine Yb ?_ | refine Yc ?_ | refine Yd ?_ | refine Ye ?_ | refine Yf ?_ | refine Yg ?_ | refine Yh ?_ | refine Yi rfl ?_ | refine Yj rfl ?_ | refine Yk rfl ?_ | refine Yl rfl ?_
   | (refine PickW.rec Ent.cells_length k rfl hlt ?_)
   | (refine Need.mk (by simp; omega) ?_)
   | (refine LoopW.to ih rfl rfl))
 ·obtain rfl : k = l.length := by omega
  rw [List.take_length]
  repeat' ((conv => whnf); first
  | refine Ya ?_ | refine Yb ?_ | refine Yc ?_ | refine Yd ?_ | refine Ye ?_ | refine Yf ?_ | refine Yg ?_ | refine Yh ?_ | refine Yi rfl ?_ | refine Yj rfl ?_ | refine Yk rfl ?_ | refine Yl rfl ?_
   | (refine Ret.mk ?_))
  rw [if_pos ⟨rfl, rfl⟩]
theorem r_SameEntries (l : List Ent) (hl : l.length ≤ 1000000) : Fc E n_ref02_SameEntries [LE l, LE l] (B true) := by
 refine g.fn code_ref02_SameEntries rfl ?_
 repeat' ((conv => whnf); first
 | refine Ya ?_ | refine Yb ?_ | refine Yc ?_ | refine Yd ?_ | refine Ye ?_ | refine Yf ?_ | refine Yg ?_ | refine Yh ?_ | refine Yi rfl ?_ | refine Yj rfl ?_ | refine Yk rfl ?_ | refine Yl rfl ?_
  | (refine Cmp.tt rfl ?_))
 refine LoopW.to (LoopW.up g (fun k => [(0, LE l), (1, LE l), (5, I k)]) (fun _ => []) l.length (fun k hk ih => ?_) 0 (Nat.zero_le _)) rfl rfl
 by_cases hlt : k < l.length
 ·have ih := ih hlt
  repeat' ((conv => whnf); first
  | refine Ya ?_ | refine Yb ?_ | refine Yc ?_ | refine Yd ?_ | refine Ye ?_ | refine Yf ?_ | refine Yg ?_ | refine Yh ?_ | refine Yi rfl ?_ | refine Yj rfl ?_ | refine Yk rfl ?_ | refine Yl rfl ?_
   | (refine PickW.rec Ent.cells_length k rfl hlt ?_)
   | (refine Cmp.tt ⟨rfl, rfl, rfl, rfl, rfl, rfl, rfl, rfl, rfl, rfl, rfl, rfl, rfl, rfl, rfl⟩ ?_)
   | (refine LoopW.to ih rfl rfl))
 ·repeat' ((conv => whnf); first
 | refine Ya ?_ | refine Yb ?_ | refine Yc ?_ | refine Yd ?_ | refine Ye ?_ | refine Yf ?_ | refine Yg ?_ | refine Yh ?_ | refine Yi rfl ?_ | refine Yj rfl ?_ | refine Yk rfl ?_ | refine Yl rfl ?_
   | (refine Ret.mk rfl))
set_option maxHeartbeats 8000000 in
theorem w_MessageLeaves (ms : List Mst) : Fc E n_law02_MessageLeaves [LMs ms] (B true) := by
 have aw := s_awake g
 refine g.fn code_law02_MessageLeaves rfl ?_
 by_cases h4 : ms.length ≤ 4 ∨ ms.length = 65
 ·have h65 : ms.length ≤ 65 := by omega
  repeat' ((conv => whnf); first
  | refine Ya ?_ | refine Yb ?_ | refine Yc ?_ | refine Yd ?_ | refine Ye ?_ | refine Yf ?_ | refine Yg ?_ | refine Yh ?_ | refine Yi rfl ?_ | refine Yj rfl ?_ | refine Yk rfl ?_ | refine Yl rfl ?_
   | (refine Cmp.mk (fun h => ?_) (fun h => ?_)) | (refine Rem.any (by omega) (fun r hr he => ?_)) | (refine Br.mk (fun h => ?_) (fun h => ?_))
   | (exfalso; omega)
   | fail)
  all_goals
   refine LoopW.to (LoopW.upP g (fun k => [(0, LMs ms), (3, .ref ⟨0, 3, 0⟩ 0 k k), (21, LMs ms), (22, I ms.length), (23, I k)]) (fun k => [(⟨0, 3, 0⟩, .row false ty_message_Message 5 k ((ms.take k).flatMap Mst.cells))]) (fun k => ∀ i (h : i < ms.length), i < k → ms[i].ls.length ≤ 65) ms.length (fun k hk hp ih => ?_) 0 (Nat.zero_le _) (fun i _ hi => absurd hi (Nat.not_lt_zero _))) rfl rfl
   by_cases hlt : k < ms.length
   ·have hs := r_ShortMessage g ms[k] 6 (by omega)
    cases hb : shortM ms[k] 6
    ·rw [hb] at hs
     repeat' ((conv => whnf); first
     | refine Ya ?_ | refine Yb ?_ | refine Yc ?_ | refine Yd ?_ | refine Ye ?_ | refine Yf ?_ | refine Yg ?_ | refine Yh ?_ | refine Yi rfl ?_ | refine Yj rfl ?_ | refine Yk rfl ?_ | refine Yl rfl ?_
      | (refine PickW.rec Mst.cells_length k rfl hlt ?_)
      | (apply CallI.of; assumption)
      | (refine Ret.mk rfl))
    ·rw [hb] at hs
     have hl65 := shortM_len (by omega) hb
     have w := w_program g ms[k] (by omega)
     have hf := flatR_take Mst.cells ms k hlt
     have hfl := flatR_length Mst.cells 5 Mst.cells_length (ms.take k)
     rw [List.length_take, Nat.min_eq_left hk] at hfl
     have ih := ih hlt fun i hi hik => by
      by_cases e : i = k
      ·subst e; exact hl65
      ·exact hp i hi (by omega)
     rw [hf] at ih
     repeat' ((conv => whnf); first
     | refine Ya ?_ | refine Yb ?_ | refine Yc ?_ | refine Yd ?_ | refine Ye ?_ | refine Yf ?_ | refine Yg ?_ | refine Yh ?_ | refine Yi rfl ?_ | refine Yj rfl ?_ | refine Yk rfl ?_ | refine Yl rfl ?_
      | (refine PickW.rec Mst.cells_length k rfl hlt ?_)
      | (apply CallI.of; assumption)
      | (refine Need.mk ⟨rfl, rfl, rfl, rfl, rfl, rfl, by show (k + 1) * 80 ≤ _; omega, by omega⟩ ?_)
      | (refine LoopW.to ih rfl rfl))
   ·obtain rfl : k = ms.length := by omega
    have hls : ∀ m ∈ ms, m.ls.length ≤ 65 := fun m hm => by
     obtain ⟨i, hi, rfl⟩ := List.getElem_of_mem hm
     exact hp i hi hi
    have s1 := s_Requests g ms (by omega) fun m hm => Nat.le_trans (hls m hm) (by decide)
    have s2 := r_Requests g ms (by omega) fun m hm => Nat.le_trans (hls m hm) (by decide)
    have hgr := reqs_grow ms hls h65
    have o1 := w_ownEntries g (reqs ms).1 hgr
    have o2 := r_SameEntries g (reqs ms).1 hgr
    generalize reqs ms = res at *
    obtain ⟨L, at', e⟩ := res
    dsimp only at s1 s2 o1 o2
    rw [List.take_length]
    repeat' ((conv => whnf); first
    | refine Ya ?_ | refine Yb ?_ | refine Yc ?_ | refine Yd ?_ | refine Ye ?_ | refine Yf ?_ | refine Yg ?_ | refine Yh ?_ | refine Yi rfl ?_ | refine Yj rfl ?_ | refine Yk rfl ?_ | refine Yl rfl ?_
     | (rw [if_pos (⟨rfl, rfl⟩ : _ ∧ _)])
     | (apply CallI.of; assumption)
     | (refine Cmp.tt rfl ?_)
     | (refine Ret.mk rfl))
 ·repeat' ((conv => whnf); first
 | refine Ya ?_ | refine Yb ?_ | refine Yc ?_ | refine Yd ?_ | refine Ye ?_ | refine Yf ?_ | refine Yg ?_ | refine Yh ?_ | refine Yi rfl ?_ | refine Yj rfl ?_ | refine Yk rfl ?_ | refine Yl rfl ?_
   | (apply CallI.of; assumption)
   | (refine Ret.mk rfl)
   | (refine Cmp.mk (fun h => ?_) (fun h => ?_)) | (refine Rem.any (by omega) (fun r hr he => ?_)) | (refine Br.mk (fun h => ?_) (fun h => ?_))
   | (exfalso; omega))
end
theorem s_MessageLeaves {E : Oracle} (g : Good E) {xs : List D} (h : fitArgs Tryz.prog [22] xs) : Fc E n_law02_MessageLeaves (asV xs) (B true) := by
 obtain ⟨x, rfl, h1⟩ := args1 h
 obtain ⟨ms, rfl⟩ := arg_Messages h1
 exact w_MessageLeaves g ms
end Go.Proofs.YtlnlcdnpgjhaaabGreatDoor.Co
