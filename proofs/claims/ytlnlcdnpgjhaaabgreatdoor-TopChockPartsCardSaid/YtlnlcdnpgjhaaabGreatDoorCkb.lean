/-
  TopChockParts: what its law leans on, part 2.
-/
import Derived.KernelRfl
import Derived.Laws.RangeAny
import Derived.Lib.SplitLaws
import Derived.Test.YtlnlcdnpgjhaaabGreatDoorEvE
import Derived.Test.YtlnlcdnpgjhaaabGreatDoorEvX
import Derived.Test.YtlnlcdnpgjhaaabGreatDoorGood
import Derived.Test.YtlnlcdnpgjhaaabGreatDoorRead
import Derived.Test.YtlnlcdnpgjhaaabGreatDoorCka
/-
 Entries: one line, by the program, in its caller's memory (form D).
-/
namespace Go.Proofs.YtlnlcdnpgjhaaabGreatDoor.Co
open Go Go.Evl
set_option maxRecDepth 100000
abbrev mD (a b : Mst) (l1 l2 : List Ent) (d c : Nat) (l : List Ent) (x : Lnt) : Mem := [(⟨0, 2, 0⟩, .row true ty_message_Entry 15 0 []), (⟨0, 5, 0⟩, .row true ty_message_Entry 15 l1.length (l1.flatMap Ent.cells)), (⟨0, 75, d⟩, .row true ty_message_Entry 15 l2.length (l2.flatMap Ent.cells)), (⟨0, 9, 0⟩, .cells ty_message_Message (msV a)), (⟨0, 10, 0⟩, .cells ty_message_Message (msV b)), (⟨0, 75, c⟩, .row true ty_message_Entry 15 l.length (l.flatMap Ent.cells)), (⟨0, 12, 0⟩, .cells ty_message_Line (lnV x))]
abbrev nD (a b : Mst) (l1 l2 : List Ent) (d c : Nat) (l : List Ent) (x : Lnt) : Mem := [(⟨0, 2, 0⟩, .row true ty_message_Entry 15 0 []), (⟨0, 5, 0⟩, .row true ty_message_Entry 15 l1.length (l1.flatMap Ent.cells)), (⟨0, 75, d⟩, .row true ty_message_Entry 15 l2.length (l2.flatMap Ent.cells)), (⟨0, 9, 0⟩, .cells ty_message_Message (msV a)), (⟨0, 10, 0⟩, .cells ty_message_Message (msV b)), (⟨0, 75, c⟩, .row true ty_message_Entry 15 l.length (l.flatMap Ent.cells)), (⟨0, 12, 0⟩, .cells ty_message_Line (lnV x)), (⟨1, 4, 0⟩, .cells ty_message_Line (lnV x)), (⟨1, 6, 0⟩, .row true ty_message_Entry 15 0 [])]
abbrev pD (a b : Mst) (l1 l2 : List Ent) (d c : Nat) (l : List Ent) (x : Lnt) : Mem := [(⟨0, 2, 0⟩, .row true ty_message_Entry 15 0 []), (⟨0, 5, 0⟩, .row true ty_message_Entry 15 l1.length (l1.flatMap Ent.cells)), (⟨0, 75, d⟩, .row true ty_message_Entry 15 l2.length (l2.flatMap Ent.cells)), (⟨0, 9, 0⟩, .cells ty_message_Message (msV a)), (⟨0, 10, 0⟩, .cells ty_message_Message (msV b)), (⟨0, 75, c⟩, .row true ty_message_Entry 15 l.length (l.flatMap Ent.cells)), (⟨0, 12, 0⟩, .cells ty_message_Line (lnV x)), (⟨1, 4, 0⟩, .cells ty_message_Line (lnV x)), (⟨1, 6, 0⟩, .row true ty_message_Entry 15 0 []), (⟨2, 3, 0⟩, .cells ty_string [S x.rq.nm])]
section
variable {E : Oracle} (g : Good E)
include g
set_option maxHeartbeats 8000000 in
theorem in_findD (a b : Mst) (l1 l2 : List Ent) (d c : Nat) (hdc : ¬ d = c) (l : List Ent) (x : Lnt) (hl : l.length ≤ 64) {K : V → Mem → Prop} (hK : K (I (plcI x.rq.nm l)) (pD a b l1 l2 d c l x)) : In E 2 n_message_find [.ref ⟨0, 75, c⟩ 0 l.length l.length, S x.rq.nm] (nD a b l1 l2 d c l x) K := by
 have b1 := beq_ne hdc
 have b2 := beq_en hdc
 refine In.enter g.lim rfl code_message_find ?_
 repeat' ((conv => whnf); first
 | refine Ya ?_ | refine Yb ?_ | refine Yc ?_ | refine Yd ?_ | refine Ye ?_ | refine Yf ?_ | refine Yg ?_ | refine Yh ?_ | refine Yi rfl ?_ | refine Yj rfl ?_ | refine Yk rfl ?_ | refine Yl rfl ?_
  | (refine Mt _ (Nat.beq_refl _) ?_)
  | (refine Mf _ b1 ?_)
  | (refine Mf _ b2 ?_)
  | ((refine Mt _ ?_ ?_); focus ((repeat' (first | exact mI_hit rfl | exact mI_hit (Nat.beq_refl _) | ((refine mI_skip ?h ?_); (case h => first | rfl | assumption)))); done))
  | ((refine Mf _ ?_ ?_); focus ((repeat' (first | exact rfl | ((refine mI_skip ?h ?_); (case h => first | rfl | assumption)))); done))
  | (refine In.enter g.lim rfl code_slices_IndexFunc_Lmessage_Entry_message_Entry ?_))
 refine LoopW.to (LoopW.upP g (fun k => [(0, .ref ⟨0, 75, c⟩ 0 l.length l.length), (1, .fn n_message_find_1 [] [.ptr ⟨2, 3, 0⟩ 0 0]), (7, I l.length), (8, I k)]) (fun _ => pD a b l1 l2 d c l x) (fun k => ∀ (j : Nat) (hj : j < l.length), j < k → ¬ l[j].rq.nm = x.rq.nm) l.length (fun k hk hp ih => ?_) 0 (Nat.zero_le _) (fun j _ h => absurd h (Nat.not_lt_zero _))) rfl rfl
 by_cases hlt : k < l.length
 ·by_cases he : l[k].rq.nm = x.rq.nm
  ·have e : plcI x.rq.nm l = k := by unfold plcI; rw [plc_at hlt hp he]
   rw [e] at hK
   repeat' ((conv => whnf); first
   | refine Ya ?_ | refine Yb ?_ | refine Yc ?_ | refine Yd ?_ | refine Ye ?_ | refine Yf ?_ | refine Yg ?_ | refine Yh ?_ | refine Yi rfl ?_ | refine Yj rfl ?_ | refine Yk rfl ?_ | refine Yl rfl ?_
    | (refine PickW.rec0 Ent.cells_length k rfl hlt ?_)
    | (refine In.enter g.lim rfl code_message_find_1 ?_)
    | (refine Cmp.tt he ?_)
     | (refine Mt _ (Nat.beq_refl _) ?_)
     | (refine Mf _ b1 ?_)
     | (refine Mf _ b2 ?_)
     | ((refine Mt _ ?_ ?_); focus ((repeat' (first | exact mI_hit rfl | exact mI_hit (Nat.beq_refl _) | ((refine mI_skip ?h ?_); (case h => first | rfl | assumption)))); done))
     | ((refine Mf _ ?_ ?_); focus ((repeat' (first | exact rfl | ((refine mI_skip ?h ?_); (case h => first | rfl | assumption)))); done))
    | (exact hK))
  ·have ih := ih hlt fun j hj hjk => by
    by_cases e : j = k
    ·subst e; exact he
    ·exact hp j hj (by omega)
   repeat' ((conv => whnf); first
   | refine Ya ?_ | refine Yb ?_ | refine Yc ?_ | refine Yd ?_ | refine Ye ?_ | refine Yf ?_ | refine Yg ?_ | refine Yh ?_ | refine Yi rfl ?_ | refine Yj rfl ?_ | refine Yk rfl ?_ | refine Yl rfl ?_
    | (refine PickW.rec0 Ent.cells_length k rfl hlt ?_)
    | (refine In.enter g.lim rfl code_message_find_1 ?_)
    | (refine Cmp.ff he ?_)
     | (refine Mt _ (Nat.beq_refl _) ?_)
     | (refine Mf _ b1 ?_)
     | (refine Mf _ b2 ?_)
     | ((refine Mt _ ?_ ?_); focus ((repeat' (first | exact mI_hit rfl | exact mI_hit (Nat.beq_refl _) | ((refine mI_skip ?h ?_); (case h => first | rfl | assumption)))); done))
     | ((refine Mf _ ?_ ?_); focus ((repeat' (first | exact rfl | ((refine mI_skip ?h ?_); (case h => first | rfl | assumption)))); done))
    | (refine LoopW.to ih rfl rfl))
 ·have e : plcI x.rq.nm l = -1 := by unfold plcI; rw [plc_non fun j hj => hp j hj (by omega)]
  rw [e] at hK
  repeat' ((conv => whnf); first
  | refine Ya ?_ | refine Yb ?_ | refine Yc ?_ | refine Yd ?_ | refine Ye ?_ | refine Yf ?_ | refine Yg ?_ | refine Yh ?_ | refine Yi rfl ?_ | refine Yj rfl ?_ | refine Yk rfl ?_ | refine Yl rfl ?_
     | (refine Mt _ (Nat.beq_refl _) ?_)
     | (refine Mf _ b1 ?_)
     | (refine Mf _ b2 ?_)
     | ((refine Mt _ ?_ ?_); focus ((repeat' (first | exact mI_hit rfl | exact mI_hit (Nat.beq_refl _) | ((refine mI_skip ?h ?_); (case h => first | rfl | assumption)))); done))
     | ((refine Mf _ ?_ ?_); focus ((repeat' (first | exact rfl | ((refine mI_skip ?h ?_); (case h => first | rfl | assumption)))); done))
   | (exact hK))
set_option maxHeartbeats 16000000 in
theorem in_stepD (a b : Mst) (l1 l2 : List Ent) (d c : Nat) (hdc : ¬ d = c) (l : List Ent) (x : Lnt) (da : Int) (hl : l.length ≤ 64) (hr : x.ac = [82] → (plc x.rq.nm l).isSome) {K : V → Mem → Prop}
  (hE : ∀ e : Int, stpE l x = e → e ≠ 0 → K (.tup [.ref ⟨1, 6, 1⟩ 0 0 0, I e]) (nD a b l1 l2 d c l x ++ [(⟨1, 6, 1⟩, .row true ty_message_Entry 15 0 [])]))
  (hS : stpE l x = 0 → x.ac ≠ [68] → K (.tup [.ref ⟨0, 75, c⟩ 0 (stpL l x da).length (stpL l x da).length, I 0]) (nD a b l1 l2 d c (stpL l x da) x))
  (hD : stpE l x = 0 → x.ac = [68] → K (.tup [.ref ⟨1, 74, 0⟩ 0 (stpL l x da).length (stpL l x da).length, I 0]) (nD a b l1 l2 d c l x ++ [(⟨1, 74, 0⟩, .row true ty_message_Entry 15 (stpL l x da).length ((stpL l x da).flatMap Ent.cells))])) :
  In E 1 n_message_step [.ref ⟨0, 75, c⟩ 0 l.length l.length, Lnv x, I da] (mD a b l1 l2 d c l x) K := by
 have b1 := beq_ne hdc
 have b2 := beq_en hdc
 have hF := fun {K} => in_findD g a b l1 l2 d c hdc l x hl (K := K)
 have hfl := fun (_ : Unit) => flatR_length Ent.cells 15 Ent.cells_length l
 obtain ⟨s, q⟩ := x
 dsimp only at hr hF hS hD
 refine In.enter g.lim rfl code_message_step ?_
 cases hp : plc q.nm l with
 | none =>
  have e : plcI q.nm l = -1 := by unfold plcI; rw [hp]
  rw [e] at hF
  by_cases h1 : s = [78] ∨ s = [72]
  ·obtain ⟨eE, eL⟩ := stp_new (da := da) hp h1
   by_cases h64 : 64 ≤ l.length
   ·have hE := hE 5 (by rw [eE, if_pos h64]) (by decide)
    rcases h1 with rfl | rfl
    all_goals
     repeat' ((conv => whnf); first
     | refine Ya ?_ | refine Yb ?_ | refine Yc ?_ | refine Yd ?_ | refine Ye ?_ | refine Yf ?_ | refine Yg ?_ | refine Yh ?_ | refine Yi rfl ?_ | refine Yj rfl ?_ | refine Yk rfl ?_ | refine Yl rfl ?_
       | (refine Mt _ (Nat.beq_refl _) ?_)
       | (refine Mf _ b1 ?_)
       | (refine Mf _ b2 ?_)
       | ((refine Mt _ ?_ ?_); focus ((repeat' (first | exact mI_hit rfl | exact mI_hit (Nat.beq_refl _) | ((refine mI_skip ?h ?_); (case h => first | rfl | assumption)))); done))
       | ((refine Mf _ ?_ ?_); focus ((repeat' (first | exact rfl | ((refine mI_skip ?h ?_); (case h => first | rfl | assumption)))); done))
      | (refine hF ?_)
      | (refine Cmp.tt rfl ?_)
      | (refine Cmp.ff (by intro h; cases h) ?_)
      | (refine CallI.of (s_mwhen g _ _) ?_)
      | (refine CallI.of (s_mfirst2 g _ _) ?_)
      | (exact hE))
   ·rw [if_neg h64] at eE
    rcases h1 with rfl | rfl
    all_goals
     have hS := hS eE (by decide)
     rw [eL] at hS
     dsimp only [nD] at hS
     rw [List.length_append, List.flatMap_append] at hS
     repeat' ((conv => whnf); first
     | refine Ya ?_ | refine Yb ?_ | refine Yc ?_ | refine Yd ?_ | refine Ye ?_ | refine Yf ?_ | refine Yg ?_ | refine Yh ?_ | refine Yi rfl ?_ | refine Yj rfl ?_ | refine Yk rfl ?_ | refine Yl rfl ?_
       | (refine Mt _ (Nat.beq_refl _) ?_)
       | (refine Mf _ b1 ?_)
       | (refine Mf _ b2 ?_)
       | ((refine Mt _ ?_ ?_); focus ((repeat' (first | exact mI_hit rfl | exact mI_hit (Nat.beq_refl _) | ((refine mI_skip ?h ?_); (case h => first | rfl | assumption)))); done))
       | ((refine Mf _ ?_ ?_); focus ((repeat' (first | exact rfl | ((refine mI_skip ?h ?_); (case h => first | rfl | assumption)))); done))
      | (refine hF ?_)
      | (refine Cmp.tt rfl ?_)
      | (refine Cmp.ff (by intro h; cases h) ?_)
      | (refine CallI.of (s_mwhen g _ _) ?_)
      | (refine CallI.of (s_mfirst2 g _ _) ?_)
      | (refine Need.mk ⟨rfl, rfl, rfl, rfl, rfl, rfl, by show (l.length + 1) * 168 ≤ _; omega, by omega⟩ ?_)
      | (exact hS))
  ·have h2 : ¬ s = [78] := fun h => h1 (.inl h)
   have h3 : ¬ s = [72] := fun h => h1 (.inr h)
   have h4 : ¬ s = [82] := fun h => by have := hr h; rw [hp] at this; cases this
   have hE := hE 10 (stp_none hp h2 h3 h4) (by decide)
   repeat' ((conv => whnf); first
   | refine Ya ?_ | refine Yb ?_ | refine Yc ?_ | refine Yd ?_ | refine Ye ?_ | refine Yf ?_ | refine Yg ?_ | refine Yh ?_ | refine Yi rfl ?_ | refine Yj rfl ?_ | refine Yk rfl ?_ | refine Yl rfl ?_
     | (refine Mt _ (Nat.beq_refl _) ?_)
     | (refine Mf _ b1 ?_)
     | (refine Mf _ b2 ?_)
     | ((refine Mt _ ?_ ?_); focus ((repeat' (first | exact mI_hit rfl | exact mI_hit (Nat.beq_refl _) | ((refine mI_skip ?h ?_); (case h => first | rfl | assumption)))); done))
     | ((refine Mf _ ?_ ?_); focus ((repeat' (first | exact rfl | ((refine mI_skip ?h ?_); (case h => first | rfl | assumption)))); done))
    | (refine hF ?_)
    | (refine Cmp.ff h2 ?_)
    | (refine Cmp.ff h3 ?_)
    | (refine Cmp.ff h4 ?_)
    | (exact hE))
 | some k =>
  have e : plcI q.nm l = k := by unfold plcI; rw [hp]
  rw [e] at hF
  obtain ⟨hk, hnm, _⟩ := plc_some hp
  by_cases h1 : s = [78] ∨ s = [72]
  ·have hE := hE 9 (stp_twice hp h1) (by decide)
   rcases h1 with rfl | rfl
   all_goals
    repeat' ((conv => whnf); first
    | refine Ya ?_ | refine Yb ?_ | refine Yc ?_ | refine Yd ?_ | refine Ye ?_ | refine Yf ?_ | refine Yg ?_ | refine Yh ?_ | refine Yi rfl ?_ | refine Yj rfl ?_ | refine Yk rfl ?_ | refine Yl rfl ?_
     | (refine Mt _ (Nat.beq_refl _) ?_)
     | (refine Mf _ b1 ?_)
     | (refine Mf _ b2 ?_)
     | ((refine Mt _ ?_ ?_); focus ((repeat' (first | exact mI_hit rfl | exact mI_hit (Nat.beq_refl _) | ((refine mI_skip ?h ?_); (case h => first | rfl | assumption)))); done))
     | ((refine Mf _ ?_ ?_); focus ((repeat' (first | exact rfl | ((refine mI_skip ?h ?_); (case h => first | rfl | assumption)))); done))
     | (refine hF ?_)
     | (refine Cmp.tt rfl ?_)
     | (refine Cmp.ff (by intro h; cases h) ?_)
     | (refine CallI.of (s_mwhen g _ _) ?_)
     | (refine CallI.of (s_mfirst2 g _ _) ?_)
     | (exact hE)
     | (refine Cmp.mk (fun h => ?_) (fun h => ?_)) | (refine Rem.any (by omega) (fun r hr he => ?_)) | (refine Br.mk (fun h => ?_) (fun h => ?_))
     | (exfalso; omega))
  ·have h2 : ¬ s = [78] := fun h => h1 (.inl h)
   have h3 : ¬ s = [72] := fun h => h1 (.inr h)
   by_cases h4 : s = [82]
   ·subst h4
    obtain ⟨eE, eL⟩ := stp_repl (da := da) hp hk
    have hS := hS eE (by decide)
    have ep : patch (l.flatMap Ent.cells) ((0 + ((k : Nat) : Int).toNat) * 15) (Ent.cells ⟨q, l[k].hi, da⟩) = (l.set k ⟨q, l[k].hi, da⟩).flatMap Ent.cells := by
     rw [show (0 + ((k : Nat) : Int).toNat) * 15 = k * 15 by omega]
     exact ent_patch l k ⟨q, l[k].hi, da⟩ hk
    rw [eL] at hS
    dsimp only [nD] at hS
    rw [List.length_set, ← ep] at hS
    repeat' ((conv => whnf); first
    | refine Ya ?_ | refine Yb ?_ | refine Yc ?_ | refine Yd ?_ | refine Ye ?_ | refine Yf ?_ | refine Yg ?_ | refine Yh ?_ | refine Yi rfl ?_ | refine Yj rfl ?_ | refine Yk rfl ?_ | refine Yl rfl ?_
       | (refine Mt _ (Nat.beq_refl _) ?_)
       | (refine Mf _ b1 ?_)
       | (refine Mf _ b2 ?_)
       | ((refine Mt _ ?_ ?_); focus ((repeat' (first | exact mI_hit rfl | exact mI_hit (Nat.beq_refl _) | ((refine mI_skip ?h ?_); (case h => first | rfl | assumption)))); done))
       | ((refine Mf _ ?_ ?_); focus ((repeat' (first | exact rfl | ((refine mI_skip ?h ?_); (case h => first | rfl | assumption)))); done))
     | (refine hF ?_)
     | (refine Cmp.tt rfl ?_)
     | (refine Cmp.ff (by intro h; cases h) ?_)
     | (refine Pick.rec0 (d := .bool l[k].hi) Ent.cells_length k rfl hk rfl ?_)
     | (refine Need.mk ⟨by omega, by omega, rfl, by omega, rfl⟩ ?_)
     | (refine Need.mk ⟨rfl, by simp only [hfl ()]; omega, rfl⟩ ?_)
     | (exact hS))
   ·obtain ⟨eE, eL⟩ := stp_some (da := da) hp hk h2 h3 h4
    by_cases hq : l[k].rq = q
    ·rw [if_pos hq] at eE
     have hpp : l[k].rq.nm = q.nm ∧ l[k].rq.ca = q.ca ∧ l[k].rq.ki = q.ki ∧ l[k].rq.te = q.te ∧ l[k].rq.pa = q.pa ∧ l[k].rq.li = q.li ∧ l[k].rq.fr = q.fr ∧ l[k].rq.to = q.to ∧ l[k].rq.da = q.da ∧ l[k].rq.mi = q.mi ∧ l[k].rq.se = q.se ∧ l[k].rq.si = q.si ∧ l[k].rq.no = q.no := by
      rw [hq]
      exact ⟨rfl, rfl, rfl, rfl, rfl, rfl, rfl, rfl, rfl, rfl, rfl, rfl, rfl⟩
     by_cases h5 : s = [68]
     ·subst h5
      have hD := hD eE rfl
      rw [eL, if_pos rfl] at hD
      dsimp only [nD] at hD
      obtain ⟨eA, eB⟩ := ent_copy l k hk
      have eAn := (congrArg List.length eA).trans (show _ = (k - 0) * 15 by rw [flatR_length Ent.cells 15 Ent.cells_length, List.length_take]; omega)
      have eBn := (congrArg List.length eB).trans (show _ = (l.length - (k + 1)) * 15 by rw [flatR_length Ent.cells 15 Ent.cells_length, List.length_drop])
      have hlen : (l.eraseIdx k).length = ((l.length : Int) - 1).toNat := by rw [List.length_eraseIdx_of_lt hk]; omega
      rw [hlen] at hD
      repeat' ((conv => whnf); first
      | refine Ya ?_ | refine Yb ?_ | refine Yc ?_ | refine Yd ?_ | refine Ye ?_ | refine Yf ?_ | refine Yg ?_ | refine Yh ?_ | refine Yi rfl ?_ | refine Yj rfl ?_ | refine Yk rfl ?_ | refine Yl rfl ?_
       | (refine Mt _ (Nat.beq_refl _) ?_)
       | (refine Mf _ b1 ?_)
       | (refine Mf _ b2 ?_)
       | ((refine Mt _ ?_ ?_); focus ((repeat' (first | exact mI_hit rfl | exact mI_hit (Nat.beq_refl _) | ((refine mI_skip ?h ?_); (case h => first | rfl | assumption)))); done))
       | ((refine Mf _ ?_ ?_); focus ((repeat' (first | exact rfl | ((refine mI_skip ?h ?_); (case h => first | rfl | assumption)))); done))
       | (refine hF ?_)
       | (refine Cmp.tt rfl ?_)
       | (refine Cmp.ff (by intro h; cases h) ?_)
       | (refine Cmp.tt hpp ?_)
       | (refine PickW.part0 Ent.cells_length (j := 0) k rfl hk (by omega) rfl ?_)
       | (refine Bounds.at 0 k (by omega) (by omega) (by omega) ?_)
       | (refine Bounds.at k (l.length - 1) (by omega) (by omega) (by omega) ?_)
       | (refine Bounds.at (k + 1) l.length (by omega) (by omega) (by omega) ?_)
       | (refine Need.mk ⟨rfl, by omega, rfl, eAn⟩ ?_)
       | (refine Need.mk ⟨rfl, by omega, rfl, eBn⟩ ?_))
      rw [← ent_made l k hk eA eB] at hD
      exact hD
     ·have hS := hS eE h5
      rw [eL, if_neg h5] at hS
      repeat' ((conv => whnf); first
      | refine Ya ?_ | refine Yb ?_ | refine Yc ?_ | refine Yd ?_ | refine Ye ?_ | refine Yf ?_ | refine Yg ?_ | refine Yh ?_ | refine Yi rfl ?_ | refine Yj rfl ?_ | refine Yk rfl ?_ | refine Yl rfl ?_
       | (refine Mt _ (Nat.beq_refl _) ?_)
       | (refine Mf _ b1 ?_)
       | (refine Mf _ b2 ?_)
       | ((refine Mt _ ?_ ?_); focus ((repeat' (first | exact mI_hit rfl | exact mI_hit (Nat.beq_refl _) | ((refine mI_skip ?h ?_); (case h => first | rfl | assumption)))); done))
       | ((refine Mf _ ?_ ?_); focus ((repeat' (first | exact rfl | ((refine mI_skip ?h ?_); (case h => first | rfl | assumption)))); done))
       | (refine hF ?_)
       | (refine Cmp.ff h2 ?_)
       | (refine Cmp.ff h3 ?_)
       | (refine Cmp.ff h4 ?_)
       | (refine Cmp.ff h5 ?_)
       | (refine Cmp.tt hpp ?_)
       | (refine PickW.part0 Ent.cells_length (j := 0) k rfl hk (by omega) rfl ?_)
       | (exact hS))
    ·rw [if_neg hq] at eE
     have hE := hE 29 eE (by decide)
     have hpp : ¬ (l[k].rq.nm = q.nm ∧ l[k].rq.ca = q.ca ∧ l[k].rq.ki = q.ki ∧ l[k].rq.te = q.te ∧ l[k].rq.pa = q.pa ∧ l[k].rq.li = q.li ∧ l[k].rq.fr = q.fr ∧ l[k].rq.to = q.to ∧ l[k].rq.da = q.da ∧ l[k].rq.mi = q.mi ∧ l[k].rq.se = q.se ∧ l[k].rq.si = q.si ∧ l[k].rq.no = q.no) := fun h => hq (rq_ext h)
     repeat' ((conv => whnf); first
     | refine Ya ?_ | refine Yb ?_ | refine Yc ?_ | refine Yd ?_ | refine Ye ?_ | refine Yf ?_ | refine Yg ?_ | refine Yh ?_ | refine Yi rfl ?_ | refine Yj rfl ?_ | refine Yk rfl ?_ | refine Yl rfl ?_
       | (refine Mt _ (Nat.beq_refl _) ?_)
       | (refine Mf _ b1 ?_)
       | (refine Mf _ b2 ?_)
       | ((refine Mt _ ?_ ?_); focus ((repeat' (first | exact mI_hit rfl | exact mI_hit (Nat.beq_refl _) | ((refine mI_skip ?h ?_); (case h => first | rfl | assumption)))); done))
       | ((refine Mf _ ?_ ?_); focus ((repeat' (first | exact rfl | ((refine mI_skip ?h ?_); (case h => first | rfl | assumption)))); done))
      | (refine hF ?_)
      | (refine Cmp.ff h2 ?_)
      | (refine Cmp.ff h3 ?_)
      | (refine Cmp.ff h4 ?_)
      | (refine Cmp.ff hpp ?_)
      | (refine PickW.part0 Ent.cells_length (j := 0) k rfl hk (by omega) rfl ?_)
      | (exact hE))
end
end Go.Proofs.YtlnlcdnpgjhaaabGreatDoor.Co
/-
 A message's lines, by the program.
-/
namespace Go.Proofs.YtlnlcdnpgjhaaabGreatDoor.Co
open Go Go.Evl
set_option maxRecDepth 100000
theorem settle_tlow {cx : Cx} {slot lo : Nat} {old m : Mem} {o : Evl.Id} {off l top : Nat} {x : D} (h : o.lv < lo) : Go.Evl.settle cx slot lo old m (.tup [.ref o off l top, .d x]) = some (.tup [.ref o off l top, .d x], old) := by
 have hn : ¬ lo ≤ o.lv := by omega
 have hr : Go.Evl.reach lo m 64 (Go.Evl.ids (.tup [.ref o off l top, .d x])) [] = [] := by
  simp [Go.Evl.ids, Go.Evl.idsL, Go.Evl.reach, hn]
 unfold Go.Evl.settle
 simp only [hr]
 rw [if_pos (by simp [Go.Evl.within, Go.Evl.movable, Go.Evl.onceB, Go.Evl.ids, Go.Evl.idsL, h])]
 simp [Go.Evl.number, Go.Evl.ren, Go.Evl.renL, Go.Evl.subst, Go.Evl.moved]
theorem Some'.tlow {cx : Cx} {slot lo : Nat} {old m : Mem} {o : Evl.Id} {off l top : Nat} {x : D} {K : V × Mem → Prop} (h : o.lv < lo) (k : K (.tup [.ref o off l top, .d x], old)) : Some' (Go.Evl.settle cx slot lo old m (.tup [.ref o off l top, .d x])) K := ⟨_, settle_tlow h, k⟩
theorem settle_trow {cx : Cx} {slot lo : Nat} {old m : Mem} {o : Evl.Id} {off l top : Nat} {x : D} {wr : Bool} {t sz n : Nat} {xs : List D} (hlo : lo ≤ o.lv) (hl : Evl.look m o = some (.row wr t sz n xs)) :
  Go.Evl.settle cx slot lo old m (.tup [.ref o off l top, .d x]) = some (.tup [.ref ⟨cx.lv, slot, Go.Evl.freeK cx.lv slot old⟩ off l top, .d x], old ++ [(⟨cx.lv, slot, Go.Evl.freeK cx.lv slot old⟩, .row wr t sz n xs)]) := by
 have hr : Go.Evl.reach lo m 64 (Go.Evl.ids (.tup [.ref o off l top, .d x])) [] = [o] := by
  simp [Go.Evl.ids, Go.Evl.idsL, Go.Evl.reach, hlo, hl, Go.Evl.idsO]
 unfold Go.Evl.settle
 simp only [hr]
 rw [if_pos (by simp [Go.Evl.within, Go.Evl.movable, Go.Evl.onceB, Go.Evl.ids, Go.Evl.idsL, hl, hlo, Go.Evl.idsO, Go.Evl.isLoop])]
 simp [Go.Evl.number, Go.Evl.ren, Go.Evl.renL, Go.Evl.subst, Go.Evl.moved, hl, Go.Evl.renO]
theorem Some'.trow {cx : Cx} {slot lo : Nat} {old m : Mem} {o : Evl.Id} {off l top : Nat} {x : D} {wr : Bool} {t sz n : Nat} {xs : List D} {K : V × Mem → Prop} (c : Nat) (hlo : lo ≤ o.lv) (hl : Evl.look m o = some (.row wr t sz n xs)) (hf : Go.Evl.freeK cx.lv slot old = c)
  (k : K (.tup [.ref ⟨cx.lv, slot, c⟩ off l top, .d x], old ++ [(⟨cx.lv, slot, c⟩, .row wr t sz n xs)])) : Some' (Go.Evl.settle cx slot lo old m (.tup [.ref o off l top, .d x])) K := ⟨_, settle_trow hlo hl, by rw [hf]; exact k⟩
abbrev kA (a b : Mst) (l : List Ent) : Mem := [(⟨0, 2, 0⟩, .row true ty_message_Entry 15 0 []), (⟨0, 5, 0⟩, .row true ty_message_Entry 15 l.length (l.flatMap Ent.cells)), (⟨0, 9, 0⟩, .cells ty_message_Message (msV a)), (⟨0, 10, 0⟩, .cells ty_message_Message (msV b))]
abbrev qA (a b : Mst) (l : List Ent) (x : Lnt) (z : Nat) : Mem := [(⟨0, 2, 0⟩, .row true ty_message_Entry 15 0 []), (⟨0, 5, 0⟩, .row true ty_message_Entry 15 l.length (l.flatMap Ent.cells)), (⟨0, 9, 0⟩, .cells ty_message_Message (msV a)), (⟨0, 10, 0⟩, .cells ty_message_Message (msV b)), (⟨0, 12, 0⟩, .cells ty_message_Line (lnV x)), (⟨0, 75, z⟩, .row true ty_message_Entry 15 0 [])]
abbrev kB (a b : Mst) (l1 : List Ent) (c : Nat) (l : List Ent) : Mem := [(⟨0, 2, 0⟩, .row true ty_message_Entry 15 0 []), (⟨0, 5, 0⟩, .row true ty_message_Entry 15 l1.length (l1.flatMap Ent.cells)), (⟨0, 9, 0⟩, .cells ty_message_Message (msV a)), (⟨0, 10, 0⟩, .cells ty_message_Message (msV b)), (⟨0, 75, c⟩, .row true ty_message_Entry 15 l.length (l.flatMap Ent.cells))]
abbrev qB (a b : Mst) (l1 : List Ent) (c : Nat) (l : List Ent) (x : Lnt) (z : Nat) : Mem := [(⟨0, 2, 0⟩, .row true ty_message_Entry 15 0 []), (⟨0, 5, 0⟩, .row true ty_message_Entry 15 l1.length (l1.flatMap Ent.cells)), (⟨0, 9, 0⟩, .cells ty_message_Message (msV a)), (⟨0, 10, 0⟩, .cells ty_message_Message (msV b)), (⟨0, 75, c⟩, .row true ty_message_Entry 15 l.length (l.flatMap Ent.cells)), (⟨0, 12, 0⟩, .cells ty_message_Line (lnV x)), (⟨0, 75, z⟩, .row true ty_message_Entry 15 0 [])]
abbrev kC (a b : Mst) (l1 : List Ent) (c : Nat) (l : List Ent) : Mem := [(⟨0, 2, 0⟩, .row true ty_message_Entry 15 0 []), (⟨0, 5, 0⟩, .row true ty_message_Entry 15 l1.length (l1.flatMap Ent.cells)), (⟨0, 75, c⟩, .row true ty_message_Entry 15 l.length (l.flatMap Ent.cells)), (⟨0, 9, 0⟩, .cells ty_message_Message (msV a)), (⟨0, 10, 0⟩, .cells ty_message_Message (msV b))]
abbrev qC (a b : Mst) (l1 : List Ent) (c : Nat) (l : List Ent) (x : Lnt) (z : Nat) : Mem := [(⟨0, 2, 0⟩, .row true ty_message_Entry 15 0 []), (⟨0, 5, 0⟩, .row true ty_message_Entry 15 l1.length (l1.flatMap Ent.cells)), (⟨0, 75, c⟩, .row true ty_message_Entry 15 l.length (l.flatMap Ent.cells)), (⟨0, 9, 0⟩, .cells ty_message_Message (msV a)), (⟨0, 10, 0⟩, .cells ty_message_Message (msV b)), (⟨0, 12, 0⟩, .cells ty_message_Line (lnV x)), (⟨0, 75, z⟩, .row true ty_message_Entry 15 0 [])]
abbrev kD (a b : Mst) (l1 l2 : List Ent) (d c : Nat) (l : List Ent) : Mem := [(⟨0, 2, 0⟩, .row true ty_message_Entry 15 0 []), (⟨0, 5, 0⟩, .row true ty_message_Entry 15 l1.length (l1.flatMap Ent.cells)), (⟨0, 75, d⟩, .row true ty_message_Entry 15 l2.length (l2.flatMap Ent.cells)), (⟨0, 9, 0⟩, .cells ty_message_Message (msV a)), (⟨0, 10, 0⟩, .cells ty_message_Message (msV b)), (⟨0, 75, c⟩, .row true ty_message_Entry 15 l.length (l.flatMap Ent.cells))]
abbrev qD (a b : Mst) (l1 l2 : List Ent) (d c : Nat) (l : List Ent) (x : Lnt) (z : Nat) : Mem := [(⟨0, 2, 0⟩, .row true ty_message_Entry 15 0 []), (⟨0, 5, 0⟩, .row true ty_message_Entry 15 l1.length (l1.flatMap Ent.cells)), (⟨0, 75, d⟩, .row true ty_message_Entry 15 l2.length (l2.flatMap Ent.cells)), (⟨0, 9, 0⟩, .cells ty_message_Message (msV a)), (⟨0, 10, 0⟩, .cells ty_message_Message (msV b)), (⟨0, 75, c⟩, .row true ty_message_Entry 15 l.length (l.flatMap Ent.cells)), (⟨0, 12, 0⟩, .cells ty_message_Line (lnV x)), (⟨0, 75, z⟩, .row true ty_message_Entry 15 0 [])]
abbrev eL (ms : List Mst) (i : Nat) (a : Mst) (o : Evl.Id) (n k : Nat) : Env := [(0, LMs ms), (5, .ref o 0 n n), (6, I i), (7, I 0), (9, .ptr ⟨0, 9, 0⟩ 0 0), (16, LMs ms), (17, I ms.length), (18, I i), (64, LL a.ls), (65, I a.ls.length), (66, I k)]
abbrev eX (ms : List Mst) (i : Nat) (a : Mst) (o : Evl.Id) (n k : Nat) : Env := [(0, LMs ms), (5, .ref o 0 n n), (6, I i), (7, I 0), (9, .ptr ⟨0, 9, 0⟩ 0 0), (16, LMs ms), (17, I ms.length), (18, I i), (64, LL a.ls), (65, I a.ls.length), (66, I k), (67, B false)]
abbrev eB (ms : List Mst) (i : Nat) (a : Mst) (o : Evl.Id) (e : Int) (k : Nat) : Env := [(0, LMs ms), (5, .ref o 0 0 0), (6, I i), (7, I e), (9, .ptr ⟨0, 9, 0⟩ 0 0), (16, LMs ms), (17, I ms.length), (18, I i), (64, LL a.ls), (65, I a.ls.length), (66, I k), (67, B true), (79, B true)]
section
variable {E : Oracle} (g : Good E)
include g
set_option maxHeartbeats 16000000 in
theorem s_lines0 (ms : List Mst) (i : Nat) (a b : Mst) (l0 : List Ent) (hl0 : l0.length ≤ 64) (ha : a.ls.length ≤ 1000000) (ok : plcOk a.da l0 a.ls) (res : List Ent × Int) (hres : linG a.da l0 a.ls = res) {K : Ex → Env → Mem → Prop}
  (okP : ∀ l : List Ent, res = (l, 0) → l.length ≤ 64 → Hold (K (.exit 2) (eX ms i a ⟨0, 5, 0⟩ l.length a.ls.length) (kA a b l)))
  (okQ : ∀ (l l1 : List Ent) (c : Nat), res = (l, 0) → l.length ≤ 64 → Hold (K (.exit 2) (eX ms i a ⟨0, 75, c⟩ l.length a.ls.length) (kB a b l1 c l)))
  (noP : ∀ (l : List Ent) (x : Lnt) (e : Int) (k : Nat), e ≠ 0 → res.2 = e → Hold (K (.exit 0) (eB ms i a ⟨0, 75, 0⟩ e k) (qA a b l x 0)))
  (noQ : ∀ (l l1 : List Ent) (c : Nat) (x : Lnt) (e : Int) (k : Nat), e ≠ 0 → res.2 = e → Hold (K (.exit 0) (eB ms i a ⟨0, 75, (c + 1)⟩ e k) (qB a b l1 c l x (c + 1)))) :
  LoopW E ⟨0, 0 + 1⟩ [0, 5, 6, 7, 9, 16, 17, 18, 64, 65, 66] [⟨0, 2, 0⟩, ⟨0, 5, 0⟩, ⟨0, 9, 0⟩, ⟨0, 10, 0⟩] b_message_Requests_1 (eL ms i a ⟨0, 5, 0⟩ l0.length 0) (kA a b l0) K := by
 refine LoopW.to (LoopW.by (σ := Option (List Ent × Nat) × List Ent × Nat) g (fun s => s.2.1.length ≤ 64 ∧ s.2.2 ≤ a.ls.length ∧ linG a.da s.2.1 (a.ls.drop s.2.2) = res ∧ plcOk a.da s.2.1 (a.ls.drop s.2.2) ∧ (∀ p, s.1 = some p → True)) (fun s => match s.1 with | none => eL ms i a ⟨0, 5, 0⟩ s.2.1.length s.2.2 | some p => eL ms i a ⟨0, 75, p.2⟩ s.2.1.length s.2.2) (fun s => match s.1 with | none => kA a b s.2.1 | some p => kB a b p.1 p.2 s.2.1) (fun s => a.ls.length - s.2.2) ?_ (none, l0, 0) ⟨hl0, Nat.zero_le _, hres, ok, fun _ h => by cases h⟩) rfl rfl
 clear hres ok hl0
 rintro ⟨_ | ⟨l1, c⟩, l, k⟩ ⟨hl, hk, hr, hp, hd⟩ ih
 ·dsimp only at hl hk hr hp hd ih ⊢
  clear hd
  by_cases hlt : k < a.ls.length
  ·rw [linG_drop hlt] at hr
   rw [List.drop_eq_getElem_cons hlt] at hp
   obtain ⟨hp1, hp2⟩ := hp
   have hst := fun {K} => in_stepA g a b l a.ls[k] a.da hl hp1 (K := K)
   by_cases hz : stpE l a.ls[k] = 0
   ·rw [if_pos hz] at hr
    have hlen := stp_len (da := a.da) hl hz hp1
    by_cases h68 : a.ls[k].ac = [68]
    ·have ih := ih (some (l, 0), stpL l a.ls[k] a.da, k + 1) ⟨hlen, by dsimp only; omega, hr, hp2 hz, fun _ _ => trivial⟩ (by dsimp only; omega)
     dsimp only at ih
     generalize stpL l a.ls[k] a.da = L at *
     repeat' ((conv => whnf); first
     | refine Ya ?_ | refine Yb ?_ | refine Yc ?_ | refine Yd ?_ | refine Ye ?_ | refine Yf ?_ | refine Yg ?_ | refine Yh ?_ | refine Yi rfl ?_ | refine Yj rfl ?_ | refine Yk rfl ?_ | refine Yl rfl ?_
      | (refine PickW.rec Lnt.cells_length k rfl hlt ?_)
      | (refine hst (fun e h1 h2 => absurd (h1 ▸ hz) h2) (fun _ h => absurd h68 h) (fun _ _ => ?_))
      | (refine Some'.trow 0 (by decide) rfl rfl ?_)
      | (refine LoopW.to ih rfl rfl))
    ·have ih := ih (none, stpL l a.ls[k] a.da, k + 1) ⟨hlen, by dsimp only; omega, hr, hp2 hz, fun _ h => by cases h⟩ (by dsimp only; omega)
     dsimp only at ih
     generalize stpL l a.ls[k] a.da = L at *
     repeat' ((conv => whnf); first
     | refine Ya ?_ | refine Yb ?_ | refine Yc ?_ | refine Yd ?_ | refine Ye ?_ | refine Yf ?_ | refine Yg ?_ | refine Yh ?_ | refine Yi rfl ?_ | refine Yj rfl ?_ | refine Yk rfl ?_ | refine Yl rfl ?_
      | (refine PickW.rec Lnt.cells_length k rfl hlt ?_)
      | (refine hst (fun e h1 h2 => absurd (h1 ▸ hz) h2) (fun _ _ => ?_) (fun _ h => absurd h h68))
      | (refine Some'.tlow (Nat.lt_succ_self 0) ?_)
      | (refine LoopW.to ih rfl rfl))
   ·rw [if_neg hz] at hr
    have hno := (noP l a.ls[k] (stpE l a.ls[k]) k hz (by rw [← hr])).go
    generalize hez : stpE l a.ls[k] = ez at *
    repeat' ((conv => whnf); first
    | refine Ya ?_ | refine Yb ?_ | refine Yc ?_ | refine Yd ?_ | refine Ye ?_ | refine Yf ?_ | refine Yg ?_ | refine Yh ?_ | refine Yi rfl ?_ | refine Yj rfl ?_ | refine Yk rfl ?_ | refine Yl rfl ?_
     | (refine PickW.rec Lnt.cells_length k rfl hlt ?_)
     | (refine hst (fun e h1 h2 => ?_) (fun h _ => absurd h hz) (fun h _ => absurd h hz))
     | (obtain rfl := h1)
     | (refine Some'.trow 0 (by decide) rfl rfl ?_)
     | (refine Cmp.ff hz ?_)
     | (exact hno))
  ·obtain rfl : k = a.ls.length := by omega
   rw [List.drop_length, linG] at hr
   have hok := (okP l hr.symm hl).go
   repeat' ((conv => whnf); first
   | refine Ya ?_ | refine Yb ?_ | refine Yc ?_ | refine Yd ?_ | refine Ye ?_ | refine Yf ?_ | refine Yg ?_ | refine Yh ?_ | refine Yi rfl ?_ | refine Yj rfl ?_ | refine Yk rfl ?_ | refine Yl rfl ?_
    | (exact hok))
 ·dsimp only at hl hk hr hp hd ih ⊢
  clear hd
  have b1 : Nat.beq c (c + 1) = false := beq_ne (by omega)
  have b2 : Nat.beq (c + 1) c = false := beq_ne (by omega)
  by_cases hlt : k < a.ls.length
  ·rw [linG_drop hlt] at hr
   rw [List.drop_eq_getElem_cons hlt] at hp
   obtain ⟨hp1, hp2⟩ := hp
   have hst := fun {K} => in_stepB g a b l1 c l a.ls[k] a.da hl hp1 (K := K)
   by_cases hz : stpE l a.ls[k] = 0
   ·rw [if_pos hz] at hr
    have hlen := stp_len (da := a.da) hl hz hp1
    by_cases h68 : a.ls[k].ac = [68]
    ·have ih := ih (some (l1, c + 1), stpL l a.ls[k] a.da, k + 1) ⟨hlen, by dsimp only; omega, hr, hp2 hz, fun _ _ => trivial⟩ (by dsimp only; omega)
     dsimp only at ih
     generalize stpL l a.ls[k] a.da = L at *
     repeat' ((conv => whnf); first
     | refine Ya ?_ | refine Yb ?_ | refine Yc ?_ | refine Yd ?_ | refine Ye ?_ | refine Yf ?_ | refine Yg ?_ | refine Yh ?_ | refine Yi rfl ?_ | refine Yj rfl ?_ | refine Yk rfl ?_ | refine Yl rfl ?_
      | (refine Mt _ (Nat.beq_refl _) ?_)
      | (refine Mf _ b1 ?_)
      | (refine Mf _ b2 ?_)
      | ((refine Mt _ ?_ ?_); focus ((repeat' (first | exact mI_hit rfl | exact mI_hit (Nat.beq_refl _) | ((refine mI_skip ?h ?_); (case h => first | rfl | assumption)))); done))
      | ((refine Mf _ ?_ ?_); focus ((repeat' (first | exact rfl | ((refine mI_skip ?h ?_); (case h => first | rfl | assumption)))); done))
      | (refine PickW.rec Lnt.cells_length k rfl hlt ?_)
      | (refine hst (fun e h1 h2 => absurd (h1 ▸ hz) h2) (fun _ h => absurd h68 h) (fun _ _ => ?_))
      | (refine Some'.trow (c + 1) (by decide) rfl (by simp [Go.Evl.freeK]) ?_)
      | (refine LoopW.to ih rfl rfl))
    ·have ih := ih (some (l1, c), stpL l a.ls[k] a.da, k + 1) ⟨hlen, by dsimp only; omega, hr, hp2 hz, fun _ _ => trivial⟩ (by dsimp only; omega)
     dsimp only at ih
     generalize stpL l a.ls[k] a.da = L at *
     repeat' ((conv => whnf); first
     | refine Ya ?_ | refine Yb ?_ | refine Yc ?_ | refine Yd ?_ | refine Ye ?_ | refine Yf ?_ | refine Yg ?_ | refine Yh ?_ | refine Yi rfl ?_ | refine Yj rfl ?_ | refine Yk rfl ?_ | refine Yl rfl ?_
      | (refine Mt _ (Nat.beq_refl _) ?_)
      | (refine Mf _ b1 ?_)
      | (refine Mf _ b2 ?_)
      | ((refine Mt _ ?_ ?_); focus ((repeat' (first | exact mI_hit rfl | exact mI_hit (Nat.beq_refl _) | ((refine mI_skip ?h ?_); (case h => first | rfl | assumption)))); done))
      | ((refine Mf _ ?_ ?_); focus ((repeat' (first | exact rfl | ((refine mI_skip ?h ?_); (case h => first | rfl | assumption)))); done))
      | (refine PickW.rec Lnt.cells_length k rfl hlt ?_)
      | (refine hst (fun e h1 h2 => absurd (h1 ▸ hz) h2) (fun _ _ => ?_) (fun _ h => absurd h h68))
      | (refine Some'.tlow (Nat.lt_succ_self 0) ?_)
      | (refine LoopW.to ih rfl rfl))
   ·rw [if_neg hz] at hr
    have hno := (noQ l l1 c a.ls[k] (stpE l a.ls[k]) k hz (by rw [← hr])).go
    generalize hez : stpE l a.ls[k] = ez at *
    repeat' ((conv => whnf); first
    | refine Ya ?_ | refine Yb ?_ | refine Yc ?_ | refine Yd ?_ | refine Ye ?_ | refine Yf ?_ | refine Yg ?_ | refine Yh ?_ | refine Yi rfl ?_ | refine Yj rfl ?_ | refine Yk rfl ?_ | refine Yl rfl ?_
     | (refine Mt _ (Nat.beq_refl _) ?_)
     | (refine Mf _ b1 ?_)
     | (refine Mf _ b2 ?_)
     | ((refine Mt _ ?_ ?_); focus ((repeat' (first | exact mI_hit rfl | exact mI_hit (Nat.beq_refl _) | ((refine mI_skip ?h ?_); (case h => first | rfl | assumption)))); done))
     | ((refine Mf _ ?_ ?_); focus ((repeat' (first | exact rfl | ((refine mI_skip ?h ?_); (case h => first | rfl | assumption)))); done))
     | (refine PickW.rec Lnt.cells_length k rfl hlt ?_)
     | (refine hst (fun e h1 h2 => ?_) (fun h _ => absurd h hz) (fun h _ => absurd h hz))
     | (obtain rfl := h1)
     | (refine Some'.trow (c + 1) (by decide) rfl (by simp [Go.Evl.freeK]) ?_)
     | (refine Cmp.ff hz ?_)
     | (exact hno))
  ·obtain rfl : k = a.ls.length := by omega
   rw [List.drop_length, linG] at hr
   have hok := (okQ l l1 c hr.symm hl).go
   repeat' ((conv => whnf); first
   | refine Ya ?_ | refine Yb ?_ | refine Yc ?_ | refine Yd ?_ | refine Ye ?_ | refine Yf ?_ | refine Yg ?_ | refine Yh ?_ | refine Yi rfl ?_ | refine Yj rfl ?_ | refine Yk rfl ?_ | refine Yl rfl ?_
    | (refine Mt _ (Nat.beq_refl _) ?_)
    | (refine Mf _ b1 ?_)
    | (refine Mf _ b2 ?_)
    | ((refine Mt _ ?_ ?_); focus ((repeat' (first | exact mI_hit rfl | exact mI_hit (Nat.beq_refl _) | ((refine mI_skip ?h ?_); (case h => first | rfl | assumption)))); done))
    | ((refine Mf _ ?_ ?_); focus ((repeat' (first | exact rfl | ((refine mI_skip ?h ?_); (case h => first | rfl | assumption)))); done))
    | (exact hok))
set_option maxHeartbeats 16000000 in
theorem s_lines1 (ms : List Mst) (i : Nat) (a b : Mst) (l1 : List Ent) (d : Nat) (l0 : List Ent) (hl0 : l0.length ≤ 64) (ha : a.ls.length ≤ 1000000) (ok : plcOk a.da l0 a.ls) (res : List Ent × Int) (hres : linG a.da l0 a.ls = res) {K : Ex → Env → Mem → Prop}
  (okP : ∀ l : List Ent, res = (l, 0) → l.length ≤ 64 → Hold (K (.exit 2) (eX ms i a ⟨0, 75, d⟩ l.length a.ls.length) (kC a b l1 d l)))
  (okQ : ∀ (l l2 : List Ent) (c : Nat), res = (l, 0) → l.length ≤ 64 → d < c → Hold (K (.exit 2) (eX ms i a ⟨0, 75, c⟩ l.length a.ls.length) (kD a b l1 l2 d c l)))
  (noP : ∀ (l : List Ent) (x : Lnt) (e : Int) (k : Nat), e ≠ 0 → res.2 = e → Hold (K (.exit 0) (eB ms i a ⟨0, 75, (d + 1)⟩ e k) (qC a b l1 d l x (d + 1))))
  (noQ : ∀ (l l2 : List Ent) (c : Nat) (x : Lnt) (e : Int) (k : Nat), e ≠ 0 → res.2 = e → d < c → Hold (K (.exit 0) (eB ms i a ⟨0, 75, (c + 1)⟩ e k) (qD a b l1 l2 d c l x (c + 1)))) :
  LoopW E ⟨0, 0 + 1⟩ [0, 5, 6, 7, 9, 16, 17, 18, 64, 65, 66] [⟨0, 2, 0⟩, ⟨0, 5, 0⟩, ⟨0, 75, d⟩, ⟨0, 9, 0⟩, ⟨0, 10, 0⟩] b_message_Requests_1 (eL ms i a ⟨0, 75, d⟩ l0.length 0) (kC a b l1 d l0) K := by
 refine LoopW.to (LoopW.by (σ := Option (List Ent × Nat) × List Ent × Nat) g (fun s => s.2.1.length ≤ 64 ∧ s.2.2 ≤ a.ls.length ∧ linG a.da s.2.1 (a.ls.drop s.2.2) = res ∧ plcOk a.da s.2.1 (a.ls.drop s.2.2) ∧ (∀ p, s.1 = some p → d < p.2)) (fun s => match s.1 with | none => eL ms i a ⟨0, 75, d⟩ s.2.1.length s.2.2 | some p => eL ms i a ⟨0, 75, p.2⟩ s.2.1.length s.2.2) (fun s => match s.1 with | none => kC a b l1 d s.2.1 | some p => kD a b l1 p.1 d p.2 s.2.1) (fun s => a.ls.length - s.2.2) ?_ (none, l0, 0) ⟨hl0, Nat.zero_le _, hres, ok, fun _ h => by cases h⟩) rfl rfl
 clear hres ok hl0
 rintro ⟨_ | ⟨l2, c⟩, l, k⟩ ⟨hl, hk, hr, hp, hd⟩ ih
 ·dsimp only at hl hk hr hp hd ih ⊢
  clear hd
  have b1 : Nat.beq d (d + 1) = false := beq_ne (by omega)
  have b2 : Nat.beq (d + 1) d = false := beq_ne (by omega)
  by_cases hlt : k < a.ls.length
  ·rw [linG_drop hlt] at hr
   rw [List.drop_eq_getElem_cons hlt] at hp
   obtain ⟨hp1, hp2⟩ := hp
   have hst := fun {K} => in_stepC g a b l1 d l a.ls[k] a.da hl hp1 (K := K)
   by_cases hz : stpE l a.ls[k] = 0
   ·rw [if_pos hz] at hr
    have hlen := stp_len (da := a.da) hl hz hp1
    by_cases h68 : a.ls[k].ac = [68]
    ·have ih := ih (some (l, d + 1), stpL l a.ls[k] a.da, k + 1) ⟨hlen, by dsimp only; omega, hr, hp2 hz, fun p hp => by cases hp; exact Nat.lt_succ_self _⟩ (by dsimp only; omega)
     dsimp only at ih
     generalize stpL l a.ls[k] a.da = L at *
     repeat' ((conv => whnf); first
     | refine Ya ?_ | refine Yb ?_ | refine Yc ?_ | refine Yd ?_ | refine Ye ?_ | refine Yf ?_ | refine Yg ?_ | refine Yh ?_ | refine Yi rfl ?_ | refine Yj rfl ?_ | refine Yk rfl ?_ | refine Yl rfl ?_
      | (refine Mt _ (Nat.beq_refl _) ?_)
      | (refine Mf _ b1 ?_)
      | (refine Mf _ b2 ?_)
      | ((refine Mt _ ?_ ?_); focus ((repeat' (first | exact mI_hit rfl | exact mI_hit (Nat.beq_refl _) | ((refine mI_skip ?h ?_); (case h => first | rfl | assumption)))); done))
      | ((refine Mf _ ?_ ?_); focus ((repeat' (first | exact rfl | ((refine mI_skip ?h ?_); (case h => first | rfl | assumption)))); done))
      | (refine PickW.rec Lnt.cells_length k rfl hlt ?_)
      | (refine hst (fun e h1 h2 => absurd (h1 ▸ hz) h2) (fun _ h => absurd h68 h) (fun _ _ => ?_))
      | (refine Some'.trow (d + 1) (by decide) rfl (by simp [Go.Evl.freeK]) ?_)
      | (refine LoopW.to ih rfl rfl))
    ·have ih := ih (none, stpL l a.ls[k] a.da, k + 1) ⟨hlen, by dsimp only; omega, hr, hp2 hz, fun _ h => by cases h⟩ (by dsimp only; omega)
     dsimp only at ih
     generalize stpL l a.ls[k] a.da = L at *
     repeat' ((conv => whnf); first
     | refine Ya ?_ | refine Yb ?_ | refine Yc ?_ | refine Yd ?_ | refine Ye ?_ | refine Yf ?_ | refine Yg ?_ | refine Yh ?_ | refine Yi rfl ?_ | refine Yj rfl ?_ | refine Yk rfl ?_ | refine Yl rfl ?_
      | (refine Mt _ (Nat.beq_refl _) ?_)
      | (refine Mf _ b1 ?_)
      | (refine Mf _ b2 ?_)
      | ((refine Mt _ ?_ ?_); focus ((repeat' (first | exact mI_hit rfl | exact mI_hit (Nat.beq_refl _) | ((refine mI_skip ?h ?_); (case h => first | rfl | assumption)))); done))
      | ((refine Mf _ ?_ ?_); focus ((repeat' (first | exact rfl | ((refine mI_skip ?h ?_); (case h => first | rfl | assumption)))); done))
      | (refine PickW.rec Lnt.cells_length k rfl hlt ?_)
      | (refine hst (fun e h1 h2 => absurd (h1 ▸ hz) h2) (fun _ _ => ?_) (fun _ h => absurd h h68))
      | (refine Some'.tlow (Nat.lt_succ_self 0) ?_)
      | (refine LoopW.to ih rfl rfl))
   ·rw [if_neg hz] at hr
    have hno := (noP l a.ls[k] (stpE l a.ls[k]) k hz (by rw [← hr])).go
    generalize hez : stpE l a.ls[k] = ez at *
    repeat' ((conv => whnf); first
    | refine Ya ?_ | refine Yb ?_ | refine Yc ?_ | refine Yd ?_ | refine Ye ?_ | refine Yf ?_ | refine Yg ?_ | refine Yh ?_ | refine Yi rfl ?_ | refine Yj rfl ?_ | refine Yk rfl ?_ | refine Yl rfl ?_
     | (refine Mt _ (Nat.beq_refl _) ?_)
     | (refine Mf _ b1 ?_)
     | (refine Mf _ b2 ?_)
     | ((refine Mt _ ?_ ?_); focus ((repeat' (first | exact mI_hit rfl | exact mI_hit (Nat.beq_refl _) | ((refine mI_skip ?h ?_); (case h => first | rfl | assumption)))); done))
     | ((refine Mf _ ?_ ?_); focus ((repeat' (first | exact rfl | ((refine mI_skip ?h ?_); (case h => first | rfl | assumption)))); done))
     | (refine PickW.rec Lnt.cells_length k rfl hlt ?_)
     | (refine hst (fun e h1 h2 => ?_) (fun h _ => absurd h hz) (fun h _ => absurd h hz))
     | (obtain rfl := h1)
     | (refine Some'.trow (d + 1) (by decide) rfl (by simp [Go.Evl.freeK]) ?_)
     | (refine Cmp.ff hz ?_)
     | (exact hno))
  ·obtain rfl : k = a.ls.length := by omega
   rw [List.drop_length, linG] at hr
   have hok := (okP l hr.symm hl).go
   repeat' ((conv => whnf); first
   | refine Ya ?_ | refine Yb ?_ | refine Yc ?_ | refine Yd ?_ | refine Ye ?_ | refine Yf ?_ | refine Yg ?_ | refine Yh ?_ | refine Yi rfl ?_ | refine Yj rfl ?_ | refine Yk rfl ?_ | refine Yl rfl ?_
    | (refine Mt _ (Nat.beq_refl _) ?_)
    | (refine Mf _ b1 ?_)
    | (refine Mf _ b2 ?_)
    | ((refine Mt _ ?_ ?_); focus ((repeat' (first | exact mI_hit rfl | exact mI_hit (Nat.beq_refl _) | ((refine mI_skip ?h ?_); (case h => first | rfl | assumption)))); done))
    | ((refine Mf _ ?_ ?_); focus ((repeat' (first | exact rfl | ((refine mI_skip ?h ?_); (case h => first | rfl | assumption)))); done))
    | (exact hok))
 ·dsimp only at hl hk hr hp hd ih ⊢
  have hd : d < c := hd _ rfl
  have b1 : Nat.beq c (c + 1) = false := beq_ne (by omega)
  have b2 : Nat.beq (c + 1) c = false := beq_ne (by omega)
  have b3 : Nat.beq d c = false := beq_ne (by omega)
  have b4 : Nat.beq c d = false := beq_ne (by omega)
  have b5 : Nat.beq d (c + 1) = false := beq_ne (by omega)
  have b6 : Nat.beq (c + 1) d = false := beq_ne (by omega)
  by_cases hlt : k < a.ls.length
  ·rw [linG_drop hlt] at hr
   rw [List.drop_eq_getElem_cons hlt] at hp
   obtain ⟨hp1, hp2⟩ := hp
   have hst := fun {K} => in_stepD g a b l1 l2 d c (show ¬ d = c by omega) l a.ls[k] a.da hl hp1 (K := K)
   by_cases hz : stpE l a.ls[k] = 0
   ·rw [if_pos hz] at hr
    have hlen := stp_len (da := a.da) hl hz hp1
    by_cases h68 : a.ls[k].ac = [68]
    ·have ih := ih (some (l2, c + 1), stpL l a.ls[k] a.da, k + 1) ⟨hlen, by dsimp only; omega, hr, hp2 hz, fun p hp => by cases hp; dsimp only; omega⟩ (by dsimp only; omega)
     dsimp only at ih
     generalize stpL l a.ls[k] a.da = L at *
     repeat' ((conv => whnf); first
     | refine Ya ?_ | refine Yb ?_ | refine Yc ?_ | refine Yd ?_ | refine Ye ?_ | refine Yf ?_ | refine Yg ?_ | refine Yh ?_ | refine Yi rfl ?_ | refine Yj rfl ?_ | refine Yk rfl ?_ | refine Yl rfl ?_
      | (refine Mt _ (Nat.beq_refl _) ?_)
      | (refine Mf _ b1 ?_)
      | (refine Mf _ b2 ?_)
      | (refine Mf _ b3 ?_)
      | (refine Mf _ b4 ?_)
      | (refine Mf _ b5 ?_)
      | (refine Mf _ b6 ?_)
      | ((refine Mt _ ?_ ?_); focus ((repeat' (first | exact mI_hit rfl | exact mI_hit (Nat.beq_refl _) | ((refine mI_skip ?h ?_); (case h => first | rfl | assumption)))); done))
      | ((refine Mf _ ?_ ?_); focus ((repeat' (first | exact rfl | ((refine mI_skip ?h ?_); (case h => first | rfl | assumption)))); done))
      | (refine PickW.rec Lnt.cells_length k rfl hlt ?_)
      | (refine hst (fun e h1 h2 => absurd (h1 ▸ hz) h2) (fun _ h => absurd h68 h) (fun _ _ => ?_))
      | (refine Some'.trow (c + 1) (by decide) rfl (by simp [Go.Evl.freeK]; omega) ?_)
      | (refine LoopW.to ih rfl rfl))
    ·have ih := ih (some (l2, c), stpL l a.ls[k] a.da, k + 1) ⟨hlen, by dsimp only; omega, hr, hp2 hz, fun p hp => by cases hp; exact hd⟩ (by dsimp only; omega)
     dsimp only at ih
     generalize stpL l a.ls[k] a.da = L at *
     repeat' ((conv => whnf); first
     | refine Ya ?_ | refine Yb ?_ | refine Yc ?_ | refine Yd ?_ | refine Ye ?_ | refine Yf ?_ | refine Yg ?_ | refine Yh ?_ | refine Yi rfl ?_ | refine Yj rfl ?_ | refine Yk rfl ?_ | refine Yl rfl ?_
      | (refine Mt _ (Nat.beq_refl _) ?_)
      | (refine Mf _ b1 ?_)
      | (refine Mf _ b2 ?_)
      | (refine Mf _ b3 ?_)
      | (refine Mf _ b4 ?_)
      | (refine Mf _ b5 ?_)
      | (refine Mf _ b6 ?_)
      | ((refine Mt _ ?_ ?_); focus ((repeat' (first | exact mI_hit rfl | exact mI_hit (Nat.beq_refl _) | ((refine mI_skip ?h ?_); (case h => first | rfl | assumption)))); done))
      | ((refine Mf _ ?_ ?_); focus ((repeat' (first | exact rfl | ((refine mI_skip ?h ?_); (case h => first | rfl | assumption)))); done))
      | (refine PickW.rec Lnt.cells_length k rfl hlt ?_)
      | (refine hst (fun e h1 h2 => absurd (h1 ▸ hz) h2) (fun _ _ => ?_) (fun _ h => absurd h h68))
      | (refine Some'.tlow (Nat.lt_succ_self 0) ?_)
      | (refine LoopW.to ih rfl rfl))
   ·rw [if_neg hz] at hr
    have hno := (noQ l l2 c a.ls[k] (stpE l a.ls[k]) k hz (by rw [← hr]) hd).go
    generalize hez : stpE l a.ls[k] = ez at *
    repeat' ((conv => whnf); first
    | refine Ya ?_ | refine Yb ?_ | refine Yc ?_ | refine Yd ?_ | refine Ye ?_ | refine Yf ?_ | refine Yg ?_ | refine Yh ?_ | refine Yi rfl ?_ | refine Yj rfl ?_ | refine Yk rfl ?_ | refine Yl rfl ?_
     | (refine Mt _ (Nat.beq_refl _) ?_)
     | (refine Mf _ b1 ?_)
     | (refine Mf _ b2 ?_)
     | (refine Mf _ b3 ?_)
     | (refine Mf _ b4 ?_)
     | (refine Mf _ b5 ?_)
     | (refine Mf _ b6 ?_)
     | ((refine Mt _ ?_ ?_); focus ((repeat' (first | exact mI_hit rfl | exact mI_hit (Nat.beq_refl _) | ((refine mI_skip ?h ?_); (case h => first | rfl | assumption)))); done))
     | ((refine Mf _ ?_ ?_); focus ((repeat' (first | exact rfl | ((refine mI_skip ?h ?_); (case h => first | rfl | assumption)))); done))
     | (refine PickW.rec Lnt.cells_length k rfl hlt ?_)
     | (refine hst (fun e h1 h2 => ?_) (fun h _ => absurd h hz) (fun h _ => absurd h hz))
     | (obtain rfl := h1)
     | (refine Some'.trow (c + 1) (by decide) rfl (by simp [Go.Evl.freeK]; omega) ?_)
     | (refine Cmp.ff hz ?_)
     | (exact hno))
  ·obtain rfl : k = a.ls.length := by omega
   rw [List.drop_length, linG] at hr
   have hok := (okQ l l2 c hr.symm hl hd).go
   repeat' ((conv => whnf); first
   | refine Ya ?_ | refine Yb ?_ | refine Yc ?_ | refine Yd ?_ | refine Ye ?_ | refine Yf ?_ | refine Yg ?_ | refine Yh ?_ | refine Yi rfl ?_ | refine Yj rfl ?_ | refine Yk rfl ?_ | refine Yl rfl ?_
    | (refine Mt _ (Nat.beq_refl _) ?_)
    | (refine Mf _ b1 ?_)
    | (refine Mf _ b2 ?_)
    | (refine Mf _ b3 ?_)
    | (refine Mf _ b4 ?_)
    | (refine Mf _ b5 ?_)
    | (refine Mf _ b6 ?_)
    | ((refine Mt _ ?_ ?_); focus ((repeat' (first | exact mI_hit rfl | exact mI_hit (Nat.beq_refl _) | ((refine mI_skip ?h ?_); (case h => first | rfl | assumption)))); done))
    | ((refine Mf _ ?_ ?_); focus ((repeat' (first | exact rfl | ((refine mI_skip ?h ?_); (case h => first | rfl | assumption)))); done))
    | (exact hok))
end
end Go.Proofs.YtlnlcdnpgjhaaabGreatDoor.Co
/-
 Requests, by the program.
-/
namespace Go.Proofs.YtlnlcdnpgjhaaabGreatDoor.Co
open Go Go.Evl
set_option maxRecDepth 100000
abbrev oA (l : List Ent) : Mem := [(⟨0, 2, 0⟩, .row true ty_message_Entry 15 0 []), (⟨0, 5, 0⟩, .row true ty_message_Entry 15 l.length (l.flatMap Ent.cells))]
abbrev oB (l1 : List Ent) (c : Nat) (l : List Ent) : Mem := [(⟨0, 2, 0⟩, .row true ty_message_Entry 15 0 []), (⟨0, 5, 0⟩, .row true ty_message_Entry 15 l1.length (l1.flatMap Ent.cells)), (⟨0, 75, c⟩, .row true ty_message_Entry 15 l.length (l.flatMap Ent.cells))]
abbrev eO (ms : List Mst) (o : Evl.Id) (n i : Nat) : Env := [(0, LMs ms), (5, .ref o 0 n n), (6, I ((i - 1 : Nat) : Int)), (7, I 0), (16, LMs ms), (17, I ms.length), (18, I i)]
section
variable {E : Oracle} (g : Good E)
include g
theorem s_firstW (f p m : Mst) (b1 b2 b3 : Bool) (h1 : b1 = !decide (m.ki = REQ)) (h2 : b2 = !decide (m.ai = f.ai ∧ m.se = f.se)) (h3 : b3 = decide (m.da < p.da)) : Fc E n_message_first [.d (.list 4 [DI (chkMs m), DI (if b1 = true then 13 else 0), DI (if b2 = true then 29 else 0), DI (if b3 = true then 11 else 0)])] (I (msgE f p m)) := by
 have h := s_mfirst4 g (chkMs m) (if b1 = true then 13 else 0) (if b2 = true then 29 else 0) (if b3 = true then 11 else 0)
 have e : msgE f p m = firstI [chkMs m, if b1 = true then 13 else 0, if b2 = true then 29 else 0, if b3 = true then 11 else 0] := by
  unfold msgE
  congr 1
  subst h1 h2 h3
  by_cases q1 : m.ki = REQ <;> by_cases q2 : m.ai = f.ai ∧ m.se = f.se <;> by_cases q3 : m.da < p.da <;> simp [q1, q2, q3]
 rw [e]
 exact h
set_option maxHeartbeats 16000000 in
theorem s_Requests (ms : List Mst) (hms : ms.length ≤ 1000) (hls : ∀ m ∈ ms, m.ls.length ≤ 1000000) : Fc E n_message_Requests [LMs ms] (.tup [LE (reqs ms).1, I ((reqs ms).2.1 : Nat), I (reqs ms).2.2]) := by
 refine g.fn code_message_Requests rfl ?_
 by_cases h64 : 64 < ms.length
 ·unfold reqs
  rw [if_pos h64]
  repeat' ((conv => whnf); first
  | refine Ya ?_ | refine Yb ?_ | refine Yc ?_ | refine Yd ?_ | refine Ye ?_ | refine Yf ?_ | refine Yg ?_ | refine Yh ?_ | refine Yi rfl ?_ | refine Yj rfl ?_ | refine Yk rfl ?_ | refine Yl rfl ?_
   | (refine Ret.mk rfl))
 ·by_cases h0 : ms.length = 0
  ·obtain rfl := List.length_eq_zero_iff.1 h0
   repeat' ((conv => whnf); first
   | refine Ya ?_ | refine Yb ?_ | refine Yc ?_ | refine Yd ?_ | refine Ye ?_ | refine Yf ?_ | refine Yg ?_ | refine Yh ?_ | refine Yi rfl ?_ | refine Yj rfl ?_ | refine Yk rfl ?_ | refine Yl rfl ?_
    | (refine LoopW.step g.lim ?_)
    | (refine Ret.mk rfl))
  ·have hpos : 0 < ms.length := by omega
   generalize hR : V.tup [LE (reqs ms).1, I ((reqs ms).2.1 : Nat), I (reqs ms).2.2] = R
   rw [reqs_eq hpos (by omega)] at hR
   rw [ms_get hpos] at hR
   repeat' ((conv => whnf); first
   | refine Ya ?_ | refine Yb ?_ | refine Yc ?_ | refine Yd ?_ | refine Ye ?_ | refine Yf ?_ | refine Yg ?_ | refine Yh ?_ | refine Yi rfl ?_ | refine Yj rfl ?_ | refine Yk rfl ?_ | refine Yl rfl ?_)
   refine LoopW.to (LoopW.by (σ := Option (List Ent × Nat) × List Ent × Nat) g (fun s => s.2.1.length ≤ 64 ∧ s.2.2 ≤ ms.length ∧ reqG ms[0] ms[0] 0 [] ms = reqG ms[0] (ms.getD (s.2.2 - 1) zeroM) s.2.2 s.2.1 (ms.drop s.2.2)) (fun s => match s.1 with | none => eO ms ⟨0, 5, 0⟩ s.2.1.length s.2.2 | some q => eO ms ⟨0, 75, q.2⟩ s.2.1.length s.2.2) (fun s => match s.1 with | none => oA s.2.1 | some q => oB q.1 q.2 s.2.1) (fun s => ms.length - s.2.2) ?_ (none, [], 0) ⟨by simp, Nat.zero_le _, by rw [show 0 - 1 = 0 from rfl, ms_get hpos]; rfl⟩) rfl rfl
   rintro ⟨_ | ⟨l1, d⟩, out, i⟩ ⟨hout, hi, hr⟩ ih
   ·dsimp only at hout hi hr ih ⊢
    rw [hr] at hR
    by_cases hlt : i < ms.length
    ·have hp : i - 1 < ms.length := by omega
     have hmem := List.getElem_mem hlt
     have hC := s_CheckMessage g ms[i] (hls _ hmem)
     have hW := s_firstW g ms[0] ms[i - 1] ms[i] _ _ _ rfl rfl rfl
     rw [ms_get hp] at hR hr
     rw [reqG_drop hlt] at hR
     by_cases hz : msgE ms[0] ms[i - 1] ms[i] = 0
     ·rw [if_pos hz] at hR
      have hrd := fun (h2 : (linG ms[i].da out ms[i].ls).2 = 0) => by
       have e := hr
       rw [reqG_drop hlt, if_pos hz, if_pos h2] at e
       exact e
      rw [hz] at hW
      have hz' := hz
      unfold msgE at hz'
      rw [firstI_zero] at hz'
      have hzc := hz' (chkMs ms[i]) (by simp)
      have hk : ms[i].ki = REQ := Decidable.byContradiction fun hn => by have := hz' (if ms[i].ki = REQ then 0 else 13) (by simp); rw [if_neg hn] at this; cases this
      have hh : ms[i].ai = ms[0].ai ∧ ms[i].se = ms[0].se := Decidable.byContradiction fun hn => by have := hz' (if ms[i].ai = ms[0].ai ∧ ms[i].se = ms[0].se then 0 else 29) (by simp); rw [if_neg hn] at this; cases this
      have hd : ¬ ms[i].da < ms[i - 1].da := fun hn => by have := hz' (if ms[i].da < ms[i - 1].da then 11 else 0) (by simp); rw [if_pos hn] at this; cases this
      rw [decide_eq_true hk, decide_eq_true hh, decide_eq_false hd] at hW
      obtain ⟨ha, hs⟩ := hh
      have ok := plcOk_of ms[i].da ms[i].ls out none 0 (by have := (chkMs_ok.1 hzc).ok; rw [hk] at this; exact this) (fun y hy => by cases hy)
      generalize hres : linG ms[i].da out ms[i].ls = res at hR hrd
      have hin := fun {K} => s_lines0 g ms i ms[i] ms[i - 1] out hout (hls _ hmem) ok res hres (K := K)
      have hbad : ∀ e : Int, e ≠ 0 → res.2 = e → V.tup [LE [], I (i : Nat), I e] = R := fun e h1 h2 => by
       rw [if_neg (show ¬ res.2 = 0 by rw [h2]; exact h1), h2] at hR
       exact hR
      clear hz' hR ok hres
      repeat' ((conv => whnf); first
      | refine Ya ?_ | refine Yb ?_ | refine Yc ?_ | refine Yd ?_ | refine Ye ?_ | refine Yf ?_ | refine Yg ?_ | refine Yh ?_ | refine Yi rfl ?_ | refine Yj rfl ?_ | refine Yk rfl ?_ | refine Yl rfl ?_
       | (refine PickW.rec Mst.cells_length i rfl hlt ?_)
       | (refine PickW.rec Mst.cells_length (i - 1) (by omega) hp ?_)
       | (refine Pick.rec Mst.cells_length 0 rfl hpos rfl ?_)
       | (refine CallI.of (s_mwhen g _ _) ?_)
       | (refine CallI.of hC ?_)
       | (refine CallI.of hW ?_)
       | (refine Cmp.tt hk ?_)
       | (refine Cmp.tt ha ?_)
       | (refine Cmp.tt hs ?_)
       | (refine Cmp.ff hd ?_)
       | (refine LoopW.to (hin (fun l h1 h2 => ?_) (fun l l1 c h1 h2 => ?_) (fun l x e k h1 h2 => ?_) (fun l l1 c x e k h1 h2 => ?_)) rfl rfl)
       | fail)
      ·refine ⟨?_⟩
       have ih := ih (none, l, i + 1) ⟨h2, by dsimp only; omega, by dsimp only; rw [hrd (by rw [h1]), h1, Nat.add_sub_cancel, ms_get hlt]⟩ (by dsimp only; omega)
       dsimp only at ih
       repeat' ((conv => whnf); first
       | refine Ya ?_ | refine Yb ?_ | refine Yc ?_ | refine Yd ?_ | refine Ye ?_ | refine Yf ?_ | refine Yg ?_ | refine Yh ?_ | refine Yi rfl ?_ | refine Yj rfl ?_ | refine Yk rfl ?_ | refine Yl rfl ?_
        | (refine LoopW.to ih rfl rfl))
      ·refine ⟨?_⟩
       have ih := ih (some (l1, c), l, i + 1) ⟨h2, by dsimp only; omega, by dsimp only; rw [hrd (by rw [h1]), h1, Nat.add_sub_cancel, ms_get hlt]⟩ (by dsimp only; omega)
       dsimp only at ih
       repeat' ((conv => whnf); first
       | refine Ya ?_ | refine Yb ?_ | refine Yc ?_ | refine Yd ?_ | refine Ye ?_ | refine Yf ?_ | refine Yg ?_ | refine Yh ?_ | refine Yi rfl ?_ | refine Yj rfl ?_ | refine Yk rfl ?_ | refine Yl rfl ?_
        | (refine Mt _ (Nat.beq_refl _) ?_)
        | ((refine Mt _ ?_ ?_); focus ((repeat' (first | exact mI_hit rfl | exact mI_hit (Nat.beq_refl _) | ((refine mI_skip ?h ?_); (case h => first | rfl | assumption)))); done))
        | ((refine Mf _ ?_ ?_); focus ((repeat' (first | exact rfl | ((refine mI_skip ?h ?_); (case h => first | rfl | assumption)))); done))
        | (refine LoopW.to ih rfl rfl))
      ·refine ⟨?_⟩
       have hb := hbad e h1 h2
       repeat' ((conv => whnf); first
       | refine Ya ?_ | refine Yb ?_ | refine Yc ?_ | refine Yd ?_ | refine Ye ?_ | refine Yf ?_ | refine Yg ?_ | refine Yh ?_ | refine Yi rfl ?_ | refine Yj rfl ?_ | refine Yk rfl ?_ | refine Yl rfl ?_
        | (refine Cmp.ff h1 ?_)
        | (refine Ret.mk hb))
      ·refine ⟨?_⟩
       have hb := hbad e h1 h2
       repeat' ((conv => whnf); first
       | refine Ya ?_ | refine Yb ?_ | refine Yc ?_ | refine Yd ?_ | refine Ye ?_ | refine Yf ?_ | refine Yg ?_ | refine Yh ?_ | refine Yi rfl ?_ | refine Yj rfl ?_ | refine Yk rfl ?_ | refine Yl rfl ?_
        | (refine Cmp.ff h1 ?_)
        | (refine Ret.mk hb))
     ·rw [if_neg hz] at hR
      rw [← hR]
      generalize msgE ms[0] ms[i - 1] ms[i] = e at *
      clear ih hr hmem
      by_cases hk : ms[i].ki = REQ <;> by_cases ha : ms[i].ai = ms[0].ai <;> by_cases hs : ms[i].se = ms[0].se <;> by_cases hd : ms[i].da < ms[i - 1].da
      all_goals
       first | rw [decide_eq_true hk] at hW | rw [decide_eq_false hk] at hW
       first | rw [decide_eq_true (show ms[i].ai = ms[0].ai ∧ ms[i].se = ms[0].se from ⟨ha, hs⟩)] at hW | rw [decide_eq_false (show ¬ (ms[i].ai = ms[0].ai ∧ ms[i].se = ms[0].se) from fun h => ha h.1)] at hW | rw [decide_eq_false (show ¬ (ms[i].ai = ms[0].ai ∧ ms[i].se = ms[0].se) from fun h => hs h.2)] at hW
       first | rw [decide_eq_true hd] at hW | rw [decide_eq_false hd] at hW
       repeat' ((conv => whnf); first
       | refine Ya ?_ | refine Yb ?_ | refine Yc ?_ | refine Yd ?_ | refine Ye ?_ | refine Yf ?_ | refine Yg ?_ | refine Yh ?_ | refine Yi rfl ?_ | refine Yj rfl ?_ | refine Yk rfl ?_ | refine Yl rfl ?_
        | (refine PickW.rec Mst.cells_length i rfl hlt ?_)
        | (refine PickW.rec Mst.cells_length (i - 1) (by omega) hp ?_)
        | (refine Pick.rec Mst.cells_length 0 rfl hpos rfl ?_)
        | (refine CallI.of (s_mwhen g _ _) ?_)
        | (refine CallI.of hC ?_)
        | (refine CallI.of hW ?_)
        | (refine Cmp.tt hk ?_)
        | (refine Cmp.ff hk ?_)
        | (refine Cmp.tt ha ?_)
        | (refine Cmp.ff ha ?_)
        | (refine Cmp.tt hs ?_)
        | (refine Cmp.ff hs ?_)
        | (refine Cmp.tt hd ?_)
        | (refine Cmp.ff hd ?_)
        | (refine Cmp.ff hz ?_)
        | (refine Ret.mk rfl))
    ·obtain rfl : i = ms.length := by omega
     rw [List.drop_length, reqG] at hR
     rw [← hR]
     repeat' ((conv => whnf); first
     | refine Ya ?_ | refine Yb ?_ | refine Yc ?_ | refine Yd ?_ | refine Ye ?_ | refine Yf ?_ | refine Yg ?_ | refine Yh ?_ | refine Yi rfl ?_ | refine Yj rfl ?_ | refine Yk rfl ?_ | refine Yl rfl ?_
      | (rw [if_pos (⟨rfl, rfl⟩ : _ ∧ _)])
      | (refine Ret.mk rfl))
   ·dsimp only at hout hi hr ih ⊢
    rw [hr] at hR
    by_cases hlt : i < ms.length
    ·have hp : i - 1 < ms.length := by omega
     have hmem := List.getElem_mem hlt
     have hC := s_CheckMessage g ms[i] (hls _ hmem)
     have hW := s_firstW g ms[0] ms[i - 1] ms[i] _ _ _ rfl rfl rfl
     rw [ms_get hp] at hR hr
     rw [reqG_drop hlt] at hR
     by_cases hz : msgE ms[0] ms[i - 1] ms[i] = 0
     ·rw [if_pos hz] at hR
      have hrd := fun (h2 : (linG ms[i].da out ms[i].ls).2 = 0) => by
       have e := hr
       rw [reqG_drop hlt, if_pos hz, if_pos h2] at e
       exact e
      rw [hz] at hW
      have hz' := hz
      unfold msgE at hz'
      rw [firstI_zero] at hz'
      have hzc := hz' (chkMs ms[i]) (by simp)
      have hk : ms[i].ki = REQ := Decidable.byContradiction fun hn => by have := hz' (if ms[i].ki = REQ then 0 else 13) (by simp); rw [if_neg hn] at this; cases this
      have hh : ms[i].ai = ms[0].ai ∧ ms[i].se = ms[0].se := Decidable.byContradiction fun hn => by have := hz' (if ms[i].ai = ms[0].ai ∧ ms[i].se = ms[0].se then 0 else 29) (by simp); rw [if_neg hn] at this; cases this
      have hd : ¬ ms[i].da < ms[i - 1].da := fun hn => by have := hz' (if ms[i].da < ms[i - 1].da then 11 else 0) (by simp); rw [if_pos hn] at this; cases this
      rw [decide_eq_true hk, decide_eq_true hh, decide_eq_false hd] at hW
      obtain ⟨ha, hs⟩ := hh
      have ok := plcOk_of ms[i].da ms[i].ls out none 0 (by have := (chkMs_ok.1 hzc).ok; rw [hk] at this; exact this) (fun y hy => by cases hy)
      generalize hres : linG ms[i].da out ms[i].ls = res at hR hrd
      have hin := fun {K} => s_lines1 g ms i ms[i] ms[i - 1] l1 d out hout (hls _ hmem) ok res hres (K := K)
      have hbad : ∀ e : Int, e ≠ 0 → res.2 = e → V.tup [LE [], I (i : Nat), I e] = R := fun e h1 h2 => by
       rw [if_neg (show ¬ res.2 = 0 by rw [h2]; exact h1), h2] at hR
       exact hR
      clear hz' hR ok hres
      repeat' ((conv => whnf); first
      | refine Ya ?_ | refine Yb ?_ | refine Yc ?_ | refine Yd ?_ | refine Ye ?_ | refine Yf ?_ | refine Yg ?_ | refine Yh ?_ | refine Yi rfl ?_ | refine Yj rfl ?_ | refine Yk rfl ?_ | refine Yl rfl ?_
       | (refine Mt _ (Nat.beq_refl _) ?_)
       | ((refine Mt _ ?_ ?_); focus ((repeat' (first | exact mI_hit rfl | exact mI_hit (Nat.beq_refl _) | ((refine mI_skip ?h ?_); (case h => first | rfl | assumption)))); done))
       | ((refine Mf _ ?_ ?_); focus ((repeat' (first | exact rfl | ((refine mI_skip ?h ?_); (case h => first | rfl | assumption)))); done))
       | (refine PickW.rec Mst.cells_length i rfl hlt ?_)
       | (refine PickW.rec Mst.cells_length (i - 1) (by omega) hp ?_)
       | (refine Pick.rec Mst.cells_length 0 rfl hpos rfl ?_)
       | (refine CallI.of (s_mwhen g _ _) ?_)
       | (refine CallI.of hC ?_)
       | (refine CallI.of hW ?_)
       | (refine Cmp.tt hk ?_)
       | (refine Cmp.tt ha ?_)
       | (refine Cmp.tt hs ?_)
       | (refine Cmp.ff hd ?_)
       | (refine LoopW.to (hin (fun l h1 h2 => ?_) (fun l l2 c h1 h2 h3 => ?_) (fun l x e k h1 h2 => ?_) (fun l l2 c x e k h1 h2 h3 => ?_)) rfl rfl)
       | fail)
      ·refine ⟨?_⟩
       have ih := ih (some (l1, d), l, i + 1) ⟨h2, by dsimp only; omega, by dsimp only; rw [hrd (by rw [h1]), h1, Nat.add_sub_cancel, ms_get hlt]⟩ (by dsimp only; omega)
       dsimp only at ih
       repeat' ((conv => whnf); first
       | refine Ya ?_ | refine Yb ?_ | refine Yc ?_ | refine Yd ?_ | refine Ye ?_ | refine Yf ?_ | refine Yg ?_ | refine Yh ?_ | refine Yi rfl ?_ | refine Yj rfl ?_ | refine Yk rfl ?_ | refine Yl rfl ?_
        | (refine Mt _ (Nat.beq_refl _) ?_)
        | ((refine Mt _ ?_ ?_); focus ((repeat' (first | exact mI_hit rfl | exact mI_hit (Nat.beq_refl _) | ((refine mI_skip ?h ?_); (case h => first | rfl | assumption)))); done))
        | ((refine Mf _ ?_ ?_); focus ((repeat' (first | exact rfl | ((refine mI_skip ?h ?_); (case h => first | rfl | assumption)))); done))
        | (refine LoopW.to ih rfl rfl))
      ·refine ⟨?_⟩
       have b1 : Nat.beq d c = false := beq_ne (by omega)
       have b2 : Nat.beq c d = false := beq_ne (by omega)
       have ih := ih (some (l1, c), l, i + 1) ⟨h2, by dsimp only; omega, by dsimp only; rw [hrd (by rw [h1]), h1, Nat.add_sub_cancel, ms_get hlt]⟩ (by dsimp only; omega)
       dsimp only at ih
       repeat' ((conv => whnf); first
       | refine Ya ?_ | refine Yb ?_ | refine Yc ?_ | refine Yd ?_ | refine Ye ?_ | refine Yf ?_ | refine Yg ?_ | refine Yh ?_ | refine Yi rfl ?_ | refine Yj rfl ?_ | refine Yk rfl ?_ | refine Yl rfl ?_
        | (refine Mt _ (Nat.beq_refl _) ?_)
        | (refine Mf _ b1 ?_)
        | (refine Mf _ b2 ?_)
        | ((refine Mt _ ?_ ?_); focus ((repeat' (first | exact mI_hit rfl | exact mI_hit (Nat.beq_refl _) | ((refine mI_skip ?h ?_); (case h => first | rfl | assumption)))); done))
        | ((refine Mf _ ?_ ?_); focus ((repeat' (first | exact rfl | ((refine mI_skip ?h ?_); (case h => first | rfl | assumption)))); done))
        | (refine LoopW.to ih rfl rfl))
      ·refine ⟨?_⟩
       have hb := hbad e h1 h2
       repeat' ((conv => whnf); first
       | refine Ya ?_ | refine Yb ?_ | refine Yc ?_ | refine Yd ?_ | refine Ye ?_ | refine Yf ?_ | refine Yg ?_ | refine Yh ?_ | refine Yi rfl ?_ | refine Yj rfl ?_ | refine Yk rfl ?_ | refine Yl rfl ?_
        | (refine Cmp.ff h1 ?_)
        | (refine Ret.mk hb))
      ·refine ⟨?_⟩
       have hb := hbad e h1 h2
       repeat' ((conv => whnf); first
       | refine Ya ?_ | refine Yb ?_ | refine Yc ?_ | refine Yd ?_ | refine Ye ?_ | refine Yf ?_ | refine Yg ?_ | refine Yh ?_ | refine Yi rfl ?_ | refine Yj rfl ?_ | refine Yk rfl ?_ | refine Yl rfl ?_
        | (refine Cmp.ff h1 ?_)
        | (refine Ret.mk hb))
     ·rw [if_neg hz] at hR
      rw [← hR]
      generalize msgE ms[0] ms[i - 1] ms[i] = e at *
      clear ih hr hmem
      by_cases hk : ms[i].ki = REQ <;> by_cases ha : ms[i].ai = ms[0].ai <;> by_cases hs : ms[i].se = ms[0].se <;> by_cases hd : ms[i].da < ms[i - 1].da
      all_goals
       first | rw [decide_eq_true hk] at hW | rw [decide_eq_false hk] at hW
       first | rw [decide_eq_true (show ms[i].ai = ms[0].ai ∧ ms[i].se = ms[0].se from ⟨ha, hs⟩)] at hW | rw [decide_eq_false (show ¬ (ms[i].ai = ms[0].ai ∧ ms[i].se = ms[0].se) from fun h => ha h.1)] at hW | rw [decide_eq_false (show ¬ (ms[i].ai = ms[0].ai ∧ ms[i].se = ms[0].se) from fun h => hs h.2)] at hW
       first | rw [decide_eq_true hd] at hW | rw [decide_eq_false hd] at hW
       repeat' ((conv => whnf); first
       | refine Ya ?_ | refine Yb ?_ | refine Yc ?_ | refine Yd ?_ | refine Ye ?_ | refine Yf ?_ | refine Yg ?_ | refine Yh ?_ | refine Yi rfl ?_ | refine Yj rfl ?_ | refine Yk rfl ?_ | refine Yl rfl ?_
        | (refine Mt _ (Nat.beq_refl _) ?_)
        | ((refine Mt _ ?_ ?_); focus ((repeat' (first | exact mI_hit rfl | exact mI_hit (Nat.beq_refl _) | ((refine mI_skip ?h ?_); (case h => first | rfl | assumption)))); done))
        | ((refine Mf _ ?_ ?_); focus ((repeat' (first | exact rfl | ((refine mI_skip ?h ?_); (case h => first | rfl | assumption)))); done))
        | (refine PickW.rec Mst.cells_length i rfl hlt ?_)
        | (refine PickW.rec Mst.cells_length (i - 1) (by omega) hp ?_)
        | (refine Pick.rec Mst.cells_length 0 rfl hpos rfl ?_)
        | (refine CallI.of (s_mwhen g _ _) ?_)
        | (refine CallI.of hC ?_)
        | (refine CallI.of hW ?_)
        | (refine Cmp.tt hk ?_)
        | (refine Cmp.ff hk ?_)
        | (refine Cmp.tt ha ?_)
        | (refine Cmp.ff ha ?_)
        | (refine Cmp.tt hs ?_)
        | (refine Cmp.ff hs ?_)
        | (refine Cmp.tt hd ?_)
        | (refine Cmp.ff hd ?_)
        | (refine Cmp.ff hz ?_)
        | (refine Ret.mk rfl))
    ·obtain rfl : i = ms.length := by omega
     rw [List.drop_length, reqG] at hR
     rw [← hR]
     repeat' ((conv => whnf); first
     | refine Ya ?_ | refine Yb ?_ | refine Yc ?_ | refine Yd ?_ | refine Ye ?_ | refine Yf ?_ | refine Yg ?_ | refine Yh ?_ | refine Yi rfl ?_ | refine Yj rfl ?_ | refine Yk rfl ?_ | refine Yl rfl ?_
      | (rw [if_pos (⟨rfl, rfl⟩ : _ ∧ _)])
      | (refine Mt _ (Nat.beq_refl _) ?_)
      | ((refine Mt _ ?_ ?_); focus ((repeat' (first | exact mI_hit rfl | exact mI_hit (Nat.beq_refl _) | ((refine mI_skip ?h ?_); (case h => first | rfl | assumption)))); done))
      | ((refine Mf _ ?_ ?_); focus ((repeat' (first | exact rfl | ((refine mI_skip ?h ?_); (case h => first | rfl | assumption)))); done))
      | (refine Ret.mk rfl))
end
end Go.Proofs.YtlnlcdnpgjhaaabGreatDoor.Co
/-
 Messages: how the program reads a line, field by field.
-/
namespace Go.Proofs.YtlnlcdnpgjhaaabGreatDoor.Co
open Go Go.Evl
abbrev envR (ws : List D) (i : Int) : Env := [(2, .ptr ⟨0, 2, 0⟩ 0 0), (5, .d (.list 14 ws)), (6, .ptr ⟨0, 6, 0⟩ 0 0), (7, .ptr ⟨0, 7, 0⟩ 0 0), (21, I i)]
abbrev memR (outs : List V) : Mem := (⟨0, 2, 0⟩, .cells ty_message_Line [.d (.str []), .d (.str []), .d (.str []), .d (.str []), .d (.str []), .d (.str []), .d (.str []), I 0, I 0, I 0, I 0, I 0, I 0, I 0]) :: (⟨0, 6, 0⟩, .cells ty_message_Line outs) :: (fldM 0 20 ++ [(⟨0, 7, 0⟩, .cells ty_14_message_field (fldV 0 20))])
abbrev keepR : List Evl.Id := [⟨0, 2, 0⟩, ⟨0, 6, 0⟩, ⟨0, 20, 0⟩, ⟨0, 20, 1⟩, ⟨0, 20, 2⟩, ⟨0, 20, 3⟩, ⟨0, 20, 4⟩, ⟨0, 20, 5⟩, ⟨0, 20, 6⟩, ⟨0, 20, 7⟩, ⟨0, 20, 8⟩, ⟨0, 20, 9⟩, ⟨0, 20, 10⟩, ⟨0, 20, 11⟩, ⟨0, 20, 12⟩, ⟨0, 20, 13⟩, ⟨0, 20, 14⟩, ⟨0, 20, 15⟩, ⟨0, 20, 16⟩, ⟨0, 20, 17⟩, ⟨0, 20, 18⟩, ⟨0, 20, 19⟩, ⟨0, 20, 20⟩, ⟨0, 20, 21⟩, ⟨0, 7, 0⟩]
abbrev ws14 (a0 a1 a2 a3 a4 a5 a6 a7 a8 a9 a10 a11 a12 a13 : List UInt8) : List D := [.str a0, .str a1, .str a2, .str a3, .str a4, .str a5, .str a6, .str a7, .str a8, .str a9, .str a10, .str a11, .str a12, .str a13]
section
variable {E : Oracle} (g : Good E)
include g
set_option maxRecDepth 100000
set_option maxHeartbeats 8000000 in
theorem rnd_R0 (a0 a1 a2 a3 a4 a5 a6 a7 a8 a9 a10 a11 a12 a13 : List UInt8) {b : Bool} {K : Ex → Env → Mem → Prop} {R : V} (hK : ∀ e m, K .ret e m = resultsW m e [.cell 2 (some 14), .tmp 3, .tmp 4] fun v => thawW m v fun d => Ret d R) (hs : Fc E n_message_isAction [S a0] (B b)) (hF : b = false → .tup [.d (.agg zeroL), I 0, I 25] = R)
  (ih : b = true → LoopW E ⟨0, 1⟩ [2, 5, 6, 7, 21] keepR b_message_ParseLine_1 (envR (ws14 a0 a1 a2 a3 a4 a5 a6 a7 a8 a9 a10 a11 a12 a13) 1) (memR [.d (.str a0), .d (.str []), .d (.str []), .d (.str []), .d (.str []), .d (.str []), .d (.str []), I 0, I 0, I 0, I 0, I 0, I 0, I 0]) K) : LoopW E ⟨0, 1⟩ [2, 5, 6, 7, 21] keepR b_message_ParseLine_1 (envR (ws14 a0 a1 a2 a3 a4 a5 a6 a7 a8 a9 a10 a11 a12 a13) 0) (memR [.d (.str []), .d (.str []), .d (.str []), .d (.str []), .d (.str []), .d (.str []), .d (.str []), I 0, I 0, I 0, I 0, I 0, I 0, I 0]) K := by
 refine LoopW.step g.lim ?_
 repeat' ((conv => whnf); first
 | refine Ya ?_ | refine Yb ?_ | refine Yc ?_ | refine Yd ?_ | refine Ye ?_ | refine Yf ?_ | refine Yg ?_ | refine Yh ?_ | refine Yi rfl ?_ | refine Yj rfl ?_ | refine Yk rfl ?_ | refine Yl rfl ?_
  | (refine In.enter g.lim rfl code_message_text_2 ?_)
  | (refine In.enter g.lim rfl code_message_fields_1 ?_)
  | (refine Some'.ptr (by decide) ?_)
  | (refine CallI.of hs ?_)
  | (refine Need.mk ⟨rfl, by decide⟩ ?_)
  | (refine Br.not (fun hb => ?_) (fun hb => ?_))
  | (refine (hK _ _).mpr ?_)
  | (refine LoopW.to (ih (by assumption)) rfl rfl)
  | (refine Ret.mk (hF (by assumption))))
set_option maxHeartbeats 8000000 in
theorem rnd_R1 (a0 a1 a2 a3 a4 a5 a6 a7 a8 a9 a10 a11 a12 a13 : List UInt8) {b : Bool} {K : Ex → Env → Mem → Prop} {R : V} (hK : ∀ e m, K .ret e m = resultsW m e [.cell 2 (some 14), .tmp 3, .tmp 4] fun v => thawW m v fun d => Ret d R) (hs : Fc E n_calendar_IsName [S a1] (B b)) (hF : b = false → .tup [.d (.agg zeroL), I 1, I 25] = R)
  (ih : b = true → LoopW E ⟨0, 1⟩ [2, 5, 6, 7, 21] keepR b_message_ParseLine_1 (envR (ws14 a0 a1 a2 a3 a4 a5 a6 a7 a8 a9 a10 a11 a12 a13) 2) (memR [.d (.str a0), .d (.str []), .d (.str a1), .d (.str []), .d (.str []), .d (.str []), .d (.str []), I 0, I 0, I 0, I 0, I 0, I 0, I 0]) K) : LoopW E ⟨0, 1⟩ [2, 5, 6, 7, 21] keepR b_message_ParseLine_1 (envR (ws14 a0 a1 a2 a3 a4 a5 a6 a7 a8 a9 a10 a11 a12 a13) 1) (memR [.d (.str a0), .d (.str []), .d (.str []), .d (.str []), .d (.str []), .d (.str []), .d (.str []), I 0, I 0, I 0, I 0, I 0, I 0, I 0]) K := by
 refine LoopW.step g.lim ?_
 repeat' ((conv => whnf); first
 | refine Ya ?_ | refine Yb ?_ | refine Yc ?_ | refine Yd ?_ | refine Ye ?_ | refine Yf ?_ | refine Yg ?_ | refine Yh ?_ | refine Yi rfl ?_ | refine Yj rfl ?_ | refine Yk rfl ?_ | refine Yl rfl ?_
  | (refine In.enter g.lim rfl code_message_text_2 ?_)
  | (refine In.enter g.lim rfl code_message_fields_2 ?_)
  | (refine Some'.ptr (by decide) ?_)
  | (refine CallI.of hs ?_)
  | (refine Need.mk ⟨rfl, by decide⟩ ?_)
  | (refine Br.not (fun hb => ?_) (fun hb => ?_))
  | (refine (hK _ _).mpr ?_)
  | (refine LoopW.to (ih (by assumption)) rfl rfl)
  | (refine Ret.mk (hF (by assumption))))
set_option maxHeartbeats 8000000 in
theorem rnd_R2 (a0 a1 a2 a3 a4 a5 a6 a7 a8 a9 a10 a11 a12 a13 : List UInt8) {b : Bool} {K : Ex → Env → Mem → Prop} {R : V} (hK : ∀ e m, K .ret e m = resultsW m e [.cell 2 (some 14), .tmp 3, .tmp 4] fun v => thawW m v fun d => Ret d R) (hs : Fc E n_calendar_IsName [S a2] (B b)) (hF : b = false → .tup [.d (.agg zeroL), I 2, I 25] = R)
  (ih : b = true → LoopW E ⟨0, 1⟩ [2, 5, 6, 7, 21] keepR b_message_ParseLine_1 (envR (ws14 a0 a1 a2 a3 a4 a5 a6 a7 a8 a9 a10 a11 a12 a13) 3) (memR [.d (.str a0), .d (.str a2), .d (.str a1), .d (.str []), .d (.str []), .d (.str []), .d (.str []), I 0, I 0, I 0, I 0, I 0, I 0, I 0]) K) : LoopW E ⟨0, 1⟩ [2, 5, 6, 7, 21] keepR b_message_ParseLine_1 (envR (ws14 a0 a1 a2 a3 a4 a5 a6 a7 a8 a9 a10 a11 a12 a13) 2) (memR [.d (.str a0), .d (.str []), .d (.str a1), .d (.str []), .d (.str []), .d (.str []), .d (.str []), I 0, I 0, I 0, I 0, I 0, I 0, I 0]) K := by
 refine LoopW.step g.lim ?_
 repeat' ((conv => whnf); first
 | refine Ya ?_ | refine Yb ?_ | refine Yc ?_ | refine Yd ?_ | refine Ye ?_ | refine Yf ?_ | refine Yg ?_ | refine Yh ?_ | refine Yi rfl ?_ | refine Yj rfl ?_ | refine Yk rfl ?_ | refine Yl rfl ?_
  | (refine In.enter g.lim rfl code_message_text_2 ?_)
  | (refine In.enter g.lim rfl code_message_fields_3 ?_)
  | (refine Some'.ptr (by decide) ?_)
  | (refine CallI.of hs ?_)
  | (refine Need.mk ⟨rfl, by decide⟩ ?_)
  | (refine Br.not (fun hb => ?_) (fun hb => ?_))
  | (refine (hK _ _).mpr ?_)
  | (refine LoopW.to (ih (by assumption)) rfl rfl)
  | (refine Ret.mk (hF (by assumption))))
set_option maxHeartbeats 8000000 in
theorem rnd_R3 (a0 a1 a2 a3 a4 a5 a6 a7 a8 a9 a10 a11 a12 a13 : List UInt8) {b : Bool} {K : Ex → Env → Mem → Prop} {R : V} (hK : ∀ e m, K .ret e m = resultsW m e [.cell 2 (some 14), .tmp 3, .tmp 4] fun v => thawW m v fun d => Ret d R) (hs : Fc E n_message_isKind [S a3] (B b)) (hF : b = false → .tup [.d (.agg zeroL), I 3, I 25] = R)
  (ih : b = true → LoopW E ⟨0, 1⟩ [2, 5, 6, 7, 21] keepR b_message_ParseLine_1 (envR (ws14 a0 a1 a2 a3 a4 a5 a6 a7 a8 a9 a10 a11 a12 a13) 4) (memR [.d (.str a0), .d (.str a2), .d (.str a1), .d (.str a3), .d (.str []), .d (.str []), .d (.str []), I 0, I 0, I 0, I 0, I 0, I 0, I 0]) K) : LoopW E ⟨0, 1⟩ [2, 5, 6, 7, 21] keepR b_message_ParseLine_1 (envR (ws14 a0 a1 a2 a3 a4 a5 a6 a7 a8 a9 a10 a11 a12 a13) 3) (memR [.d (.str a0), .d (.str a2), .d (.str a1), .d (.str []), .d (.str []), .d (.str []), .d (.str []), I 0, I 0, I 0, I 0, I 0, I 0, I 0]) K := by
 refine LoopW.step g.lim ?_
 repeat' ((conv => whnf); first
 | refine Ya ?_ | refine Yb ?_ | refine Yc ?_ | refine Yd ?_ | refine Ye ?_ | refine Yf ?_ | refine Yg ?_ | refine Yh ?_ | refine Yi rfl ?_ | refine Yj rfl ?_ | refine Yk rfl ?_ | refine Yl rfl ?_
  | (refine In.enter g.lim rfl code_message_text_2 ?_)
  | (refine In.enter g.lim rfl code_message_fields_4 ?_)
  | (refine Some'.ptr (by decide) ?_)
  | (refine CallI.of hs ?_)
  | (refine Need.mk ⟨rfl, by decide⟩ ?_)
  | (refine Br.not (fun hb => ?_) (fun hb => ?_))
  | (refine (hK _ _).mpr ?_)
  | (refine LoopW.to (ih (by assumption)) rfl rfl)
  | (refine Ret.mk (hF (by assumption))))
set_option maxHeartbeats 8000000 in
theorem rnd_R4 (a0 a1 a2 a3 a4 a5 a6 a7 a8 a9 a10 a11 a12 a13 : List UInt8) {b : Bool} {K : Ex → Env → Mem → Prop} {R : V} (hK : ∀ e m, K .ret e m = resultsW m e [.cell 2 (some 14), .tmp 3, .tmp 4] fun v => thawW m v fun d => Ret d R) (hs : Fc E n_calendar_IsName [S a4] (B b)) (hF : b = false → .tup [.d (.agg zeroL), I 4, I 25] = R)
  (ih : b = true → LoopW E ⟨0, 1⟩ [2, 5, 6, 7, 21] keepR b_message_ParseLine_1 (envR (ws14 a0 a1 a2 a3 a4 a5 a6 a7 a8 a9 a10 a11 a12 a13) 5) (memR [.d (.str a0), .d (.str a2), .d (.str a1), .d (.str a3), .d (.str []), .d (.str a4), .d (.str []), I 0, I 0, I 0, I 0, I 0, I 0, I 0]) K) : LoopW E ⟨0, 1⟩ [2, 5, 6, 7, 21] keepR b_message_ParseLine_1 (envR (ws14 a0 a1 a2 a3 a4 a5 a6 a7 a8 a9 a10 a11 a12 a13) 4) (memR [.d (.str a0), .d (.str a2), .d (.str a1), .d (.str a3), .d (.str []), .d (.str []), .d (.str []), I 0, I 0, I 0, I 0, I 0, I 0, I 0]) K := by
 refine LoopW.step g.lim ?_
 repeat' ((conv => whnf); first
 | refine Ya ?_ | refine Yb ?_ | refine Yc ?_ | refine Yd ?_ | refine Ye ?_ | refine Yf ?_ | refine Yg ?_ | refine Yh ?_ | refine Yi rfl ?_ | refine Yj rfl ?_ | refine Yk rfl ?_ | refine Yl rfl ?_
  | (refine In.enter g.lim rfl code_message_text_2 ?_)
  | (refine In.enter g.lim rfl code_message_fields_5 ?_)
  | (refine Some'.ptr (by decide) ?_)
  | (refine CallI.of hs ?_)
  | (refine Need.mk ⟨rfl, by decide⟩ ?_)
  | (refine Br.not (fun hb => ?_) (fun hb => ?_))
  | (refine (hK _ _).mpr ?_)
  | (refine LoopW.to (ih (by assumption)) rfl rfl)
  | (refine Ret.mk (hF (by assumption))))
set_option maxHeartbeats 8000000 in
theorem rnd_R5 (a0 a1 a2 a3 a4 a5 a6 a7 a8 a9 a10 a11 a12 a13 : List UInt8) (n5 : Int) {b : Bool} {K : Ex → Env → Mem → Prop} {R : V} (hK : ∀ e m, K .ret e m = resultsW m e [.cell 2 (some 14), .tmp 3, .tmp 4] fun v => thawW m v fun d => Ret d R) (hs : Fc E n_message_number [S a5, I 5] (.tup [I n5, B b])) (hF : b = false → .tup [.d (.agg zeroL), I 5, I 25] = R)
  (ih : b = true → LoopW E ⟨0, 1⟩ [2, 5, 6, 7, 21] keepR b_message_ParseLine_1 (envR (ws14 a0 a1 a2 a3 a4 a5 a6 a7 a8 a9 a10 a11 a12 a13) 6) (memR [.d (.str a0), .d (.str a2), .d (.str a1), .d (.str a3), .d (.str []), .d (.str a4), .d (.str []), I n5, I 0, I 0, I 0, I 0, I 0, I 0]) K) : LoopW E ⟨0, 1⟩ [2, 5, 6, 7, 21] keepR b_message_ParseLine_1 (envR (ws14 a0 a1 a2 a3 a4 a5 a6 a7 a8 a9 a10 a11 a12 a13) 5) (memR [.d (.str a0), .d (.str a2), .d (.str a1), .d (.str a3), .d (.str []), .d (.str a4), .d (.str []), I 0, I 0, I 0, I 0, I 0, I 0, I 0]) K := by
 refine LoopW.step g.lim ?_
 repeat' ((conv => whnf); first
 | refine Ya ?_ | refine Yb ?_ | refine Yc ?_ | refine Yd ?_ | refine Ye ?_ | refine Yf ?_ | refine Yg ?_ | refine Yh ?_ | refine Yi rfl ?_ | refine Yj rfl ?_ | refine Yk rfl ?_ | refine Yl rfl ?_
  | (refine In.enter g.lim rfl code_message_digits_2 ?_)
  | (refine In.enter g.lim rfl code_message_fields_6 ?_)
  | (refine Some'.ptr (by decide) ?_)
  | (refine CallI.of hs ?_)
  | (refine Need.mk ⟨rfl, by decide⟩ ?_)
  | (refine Br.not (fun hb => ?_) (fun hb => ?_))
  | (refine (hK _ _).mpr ?_)
  | (refine LoopW.to (ih (by assumption)) rfl rfl)
  | (refine Ret.mk (hF (by assumption))))
set_option maxHeartbeats 8000000 in
theorem rnd_R6 (a0 a1 a2 a3 a4 a5 a6 a7 a8 a9 a10 a11 a12 a13 : List UInt8) (n5 n6 : Int) {b : Bool} {K : Ex → Env → Mem → Prop} {R : V} (hK : ∀ e m, K .ret e m = resultsW m e [.cell 2 (some 14), .tmp 3, .tmp 4] fun v => thawW m v fun d => Ret d R) (hs : Fc E n_message_number [S a6, I 5] (.tup [I n6, B b])) (hF : b = false → .tup [.d (.agg zeroL), I 6, I 25] = R)
  (ih : b = true → LoopW E ⟨0, 1⟩ [2, 5, 6, 7, 21] keepR b_message_ParseLine_1 (envR (ws14 a0 a1 a2 a3 a4 a5 a6 a7 a8 a9 a10 a11 a12 a13) 7) (memR [.d (.str a0), .d (.str a2), .d (.str a1), .d (.str a3), .d (.str []), .d (.str a4), .d (.str []), I n5, I n6, I 0, I 0, I 0, I 0, I 0]) K) : LoopW E ⟨0, 1⟩ [2, 5, 6, 7, 21] keepR b_message_ParseLine_1 (envR (ws14 a0 a1 a2 a3 a4 a5 a6 a7 a8 a9 a10 a11 a12 a13) 6) (memR [.d (.str a0), .d (.str a2), .d (.str a1), .d (.str a3), .d (.str []), .d (.str a4), .d (.str []), I n5, I 0, I 0, I 0, I 0, I 0, I 0]) K := by
 refine LoopW.step g.lim ?_
 repeat' ((conv => whnf); first
 | refine Ya ?_ | refine Yb ?_ | refine Yc ?_ | refine Yd ?_ | refine Ye ?_ | refine Yf ?_ | refine Yg ?_ | refine Yh ?_ | refine Yi rfl ?_ | refine Yj rfl ?_ | refine Yk rfl ?_ | refine Yl rfl ?_
  | (refine In.enter g.lim rfl code_message_digits_2 ?_)
  | (refine In.enter g.lim rfl code_message_fields_7 ?_)
  | (refine Some'.ptr (by decide) ?_)
  | (refine CallI.of hs ?_)
  | (refine Need.mk ⟨rfl, by decide⟩ ?_)
  | (refine Br.not (fun hb => ?_) (fun hb => ?_))
  | (refine (hK _ _).mpr ?_)
  | (refine LoopW.to (ih (by assumption)) rfl rfl)
  | (refine Ret.mk (hF (by assumption))))
set_option maxHeartbeats 8000000 in
theorem rnd_R7 (a0 a1 a2 a3 a4 a5 a6 a7 a8 a9 a10 a11 a12 a13 : List UInt8) (n5 n6 n7 : Int) {b : Bool} {K : Ex → Env → Mem → Prop} {R : V} (hK : ∀ e m, K .ret e m = resultsW m e [.cell 2 (some 14), .tmp 3, .tmp 4] fun v => thawW m v fun d => Ret d R) (hs : Fc E n_calendar_ParseMask [S a7] (.tup [I n7, I (if b = true then 0 else 25)])) (hF : b = false → .tup [.d (.agg zeroL), I 7, I 25] = R)
  (ih : b = true → LoopW E ⟨0, 1⟩ [2, 5, 6, 7, 21] keepR b_message_ParseLine_1 (envR (ws14 a0 a1 a2 a3 a4 a5 a6 a7 a8 a9 a10 a11 a12 a13) 8) (memR [.d (.str a0), .d (.str a2), .d (.str a1), .d (.str a3), .d (.str []), .d (.str a4), .d (.str []), I n5, I n6, I n7, I 0, I 0, I 0, I 0]) K) : LoopW E ⟨0, 1⟩ [2, 5, 6, 7, 21] keepR b_message_ParseLine_1 (envR (ws14 a0 a1 a2 a3 a4 a5 a6 a7 a8 a9 a10 a11 a12 a13) 7) (memR [.d (.str a0), .d (.str a2), .d (.str a1), .d (.str a3), .d (.str []), .d (.str a4), .d (.str []), I n5, I n6, I 0, I 0, I 0, I 0, I 0]) K := by
 refine LoopW.step g.lim ?_
 repeat' ((conv => whnf); first
 | refine Ya ?_ | refine Yb ?_ | refine Yc ?_ | refine Yd ?_ | refine Ye ?_ | refine Yf ?_ | refine Yg ?_ | refine Yh ?_ | refine Yi rfl ?_ | refine Yj rfl ?_ | refine Yk rfl ?_ | refine Yl rfl ?_
  | (refine In.enter g.lim rfl code_message_fields_9 ?_)
  | (refine Some'.ptr (by decide) ?_)
  | (refine CallI.of hs ?_)
  | (refine Need.mk ⟨rfl, by decide⟩ ?_)
  | (refine Cmp.b25 (fun h => ?_) (fun h => ?_))
  | (refine Br.not (fun hb => ?_) (fun hb => ?_))
  | (refine (hK _ _).mpr ?_)
  | (refine LoopW.to (ih (by assumption)) rfl rfl)
  | (refine Ret.mk (hF (by assumption))))
set_option maxHeartbeats 8000000 in
theorem rnd_R8 (a0 a1 a2 a3 a4 a5 a6 a7 a8 a9 a10 a11 a12 a13 : List UInt8) (n5 n6 n7 n8 : Int) {b : Bool} {K : Ex → Env → Mem → Prop} {R : V} (hK : ∀ e m, K .ret e m = resultsW m e [.cell 2 (some 14), .tmp 3, .tmp 4] fun v => thawW m v fun d => Ret d R) (hs : Fc E n_message_ParseMinute [S a8] (.tup [I n8, I (if b = true then 0 else 25)])) (hF : b = false → .tup [.d (.agg zeroL), I 8, I 25] = R)
  (ih : b = true → LoopW E ⟨0, 1⟩ [2, 5, 6, 7, 21] keepR b_message_ParseLine_1 (envR (ws14 a0 a1 a2 a3 a4 a5 a6 a7 a8 a9 a10 a11 a12 a13) 9) (memR [.d (.str a0), .d (.str a2), .d (.str a1), .d (.str a3), .d (.str []), .d (.str a4), .d (.str []), I n5, I n6, I n7, I n8, I 0, I 0, I 0]) K) : LoopW E ⟨0, 1⟩ [2, 5, 6, 7, 21] keepR b_message_ParseLine_1 (envR (ws14 a0 a1 a2 a3 a4 a5 a6 a7 a8 a9 a10 a11 a12 a13) 8) (memR [.d (.str a0), .d (.str a2), .d (.str a1), .d (.str a3), .d (.str []), .d (.str a4), .d (.str []), I n5, I n6, I n7, I 0, I 0, I 0, I 0]) K := by
 refine LoopW.step g.lim ?_
 repeat' ((conv => whnf); first
 | refine Ya ?_ | refine Yb ?_ | refine Yc ?_ | refine Yd ?_ | refine Ye ?_ | refine Yf ?_ | refine Yg ?_ | refine Yh ?_ | refine Yi rfl ?_ | refine Yj rfl ?_ | refine Yk rfl ?_ | refine Yl rfl ?_
  | (refine In.enter g.lim rfl code_message_fields_11 ?_)
  | (refine Some'.ptr (by decide) ?_)
  | (refine CallI.of hs ?_)
  | (refine Need.mk ⟨rfl, by decide⟩ ?_)
  | (refine Cmp.b25 (fun h => ?_) (fun h => ?_))
  | (refine Br.not (fun hb => ?_) (fun hb => ?_))
  | (refine (hK _ _).mpr ?_)
  | (refine LoopW.to (ih (by assumption)) rfl rfl)
  | (refine Ret.mk (hF (by assumption))))
set_option maxHeartbeats 8000000 in
theorem rnd_R9 (a0 a1 a2 a3 a4 a5 a6 a7 a8 a9 a10 a11 a12 a13 : List UInt8) (n5 n6 n7 n8 n9 : Int) {b : Bool} {K : Ex → Env → Mem → Prop} {R : V} (hK : ∀ e m, K .ret e m = resultsW m e [.cell 2 (some 14), .tmp 3, .tmp 4] fun v => thawW m v fun d => Ret d R) (hs : Fc E n_message_number [S a9, I 3] (.tup [I n9, B b])) (hF : b = false → .tup [.d (.agg zeroL), I 9, I 25] = R)
  (ih : b = true → LoopW E ⟨0, 1⟩ [2, 5, 6, 7, 21] keepR b_message_ParseLine_1 (envR (ws14 a0 a1 a2 a3 a4 a5 a6 a7 a8 a9 a10 a11 a12 a13) 10) (memR [.d (.str a0), .d (.str a2), .d (.str a1), .d (.str a3), .d (.str []), .d (.str a4), .d (.str []), I n5, I n6, I n7, I n8, I n9, I 0, I 0]) K) : LoopW E ⟨0, 1⟩ [2, 5, 6, 7, 21] keepR b_message_ParseLine_1 (envR (ws14 a0 a1 a2 a3 a4 a5 a6 a7 a8 a9 a10 a11 a12 a13) 9) (memR [.d (.str a0), .d (.str a2), .d (.str a1), .d (.str a3), .d (.str []), .d (.str a4), .d (.str []), I n5, I n6, I n7, I n8, I 0, I 0, I 0]) K := by
 refine LoopW.step g.lim ?_
 repeat' ((conv => whnf); first
 | refine Ya ?_ | refine Yb ?_ | refine Yc ?_ | refine Yd ?_ | refine Ye ?_ | refine Yf ?_ | refine Yg ?_ | refine Yh ?_ | refine Yi rfl ?_ | refine Yj rfl ?_ | refine Yk rfl ?_ | refine Yl rfl ?_
  | (refine In.enter g.lim rfl code_message_digits_2 ?_)
  | (refine In.enter g.lim rfl code_message_fields_12 ?_)
  | (refine Some'.ptr (by decide) ?_)
  | (refine CallI.of hs ?_)
  | (refine Need.mk ⟨rfl, by decide⟩ ?_)
  | (refine Br.not (fun hb => ?_) (fun hb => ?_))
  | (refine (hK _ _).mpr ?_)
  | (refine LoopW.to (ih (by assumption)) rfl rfl)
  | (refine Ret.mk (hF (by assumption))))
set_option maxHeartbeats 8000000 in
theorem rnd_R10 (a0 a1 a2 a3 a4 a5 a6 a7 a8 a9 a10 a11 a12 a13 : List UInt8) (n10 n5 n6 n7 n8 n9 : Int) {b : Bool} {K : Ex → Env → Mem → Prop} {R : V} (hK : ∀ e m, K .ret e m = resultsW m e [.cell 2 (some 14), .tmp 3, .tmp 4] fun v => thawW m v fun d => Ret d R) (hs : Fc E n_message_number [S a10, I 1] (.tup [I n10, B b])) (hF : b = false → .tup [.d (.agg zeroL), I 10, I 25] = R)
  (ih : b = true → LoopW E ⟨0, 1⟩ [2, 5, 6, 7, 21] keepR b_message_ParseLine_1 (envR (ws14 a0 a1 a2 a3 a4 a5 a6 a7 a8 a9 a10 a11 a12 a13) 11) (memR [.d (.str a0), .d (.str a2), .d (.str a1), .d (.str a3), .d (.str []), .d (.str a4), .d (.str []), I n5, I n6, I n7, I n8, I n9, I n10, I 0]) K) : LoopW E ⟨0, 1⟩ [2, 5, 6, 7, 21] keepR b_message_ParseLine_1 (envR (ws14 a0 a1 a2 a3 a4 a5 a6 a7 a8 a9 a10 a11 a12 a13) 10) (memR [.d (.str a0), .d (.str a2), .d (.str a1), .d (.str a3), .d (.str []), .d (.str a4), .d (.str []), I n5, I n6, I n7, I n8, I n9, I 0, I 0]) K := by
 refine LoopW.step g.lim ?_
 repeat' ((conv => whnf); first
 | refine Ya ?_ | refine Yb ?_ | refine Yc ?_ | refine Yd ?_ | refine Ye ?_ | refine Yf ?_ | refine Yg ?_ | refine Yh ?_ | refine Yi rfl ?_ | refine Yj rfl ?_ | refine Yk rfl ?_ | refine Yl rfl ?_
  | (refine In.enter g.lim rfl code_message_digits_2 ?_)
  | (refine In.enter g.lim rfl code_message_fields_13 ?_)
  | (refine Some'.ptr (by decide) ?_)
  | (refine CallI.of hs ?_)
  | (refine Need.mk ⟨rfl, by decide⟩ ?_)
  | (refine Br.not (fun hb => ?_) (fun hb => ?_))
  | (refine (hK _ _).mpr ?_)
  | (refine LoopW.to (ih (by assumption)) rfl rfl)
  | (refine Ret.mk (hF (by assumption))))
set_option maxHeartbeats 8000000 in
theorem rnd_R11 (a0 a1 a2 a3 a4 a5 a6 a7 a8 a9 a10 a11 a12 a13 : List UInt8) (n10 n11 n5 n6 n7 n8 n9 : Int) {b : Bool} {K : Ex → Env → Mem → Prop} {R : V} (hK : ∀ e m, K .ret e m = resultsW m e [.cell 2 (some 14), .tmp 3, .tmp 4] fun v => thawW m v fun d => Ret d R) (hs : Fc E n_message_number [S a11, I 2] (.tup [I n11, B b])) (hF : b = false → .tup [.d (.agg zeroL), I 11, I 25] = R)
  (ih : b = true → LoopW E ⟨0, 1⟩ [2, 5, 6, 7, 21] keepR b_message_ParseLine_1 (envR (ws14 a0 a1 a2 a3 a4 a5 a6 a7 a8 a9 a10 a11 a12 a13) 12) (memR [.d (.str a0), .d (.str a2), .d (.str a1), .d (.str a3), .d (.str []), .d (.str a4), .d (.str []), I n5, I n6, I n7, I n8, I n9, I n10, I n11]) K) : LoopW E ⟨0, 1⟩ [2, 5, 6, 7, 21] keepR b_message_ParseLine_1 (envR (ws14 a0 a1 a2 a3 a4 a5 a6 a7 a8 a9 a10 a11 a12 a13) 11) (memR [.d (.str a0), .d (.str a2), .d (.str a1), .d (.str a3), .d (.str []), .d (.str a4), .d (.str []), I n5, I n6, I n7, I n8, I n9, I n10, I 0]) K := by
 refine LoopW.step g.lim ?_
 repeat' ((conv => whnf); first
 | refine Ya ?_ | refine Yb ?_ | refine Yc ?_ | refine Yd ?_ | refine Ye ?_ | refine Yf ?_ | refine Yg ?_ | refine Yh ?_ | refine Yi rfl ?_ | refine Yj rfl ?_ | refine Yk rfl ?_ | refine Yl rfl ?_
  | (refine In.enter g.lim rfl code_message_digits_2 ?_)
  | (refine In.enter g.lim rfl code_message_fields_14 ?_)
  | (refine Some'.ptr (by decide) ?_)
  | (refine CallI.of hs ?_)
  | (refine Need.mk ⟨rfl, by decide⟩ ?_)
  | (refine Br.not (fun hb => ?_) (fun hb => ?_))
  | (refine (hK _ _).mpr ?_)
  | (refine LoopW.to (ih (by assumption)) rfl rfl)
  | (refine Ret.mk (hF (by assumption))))
set_option maxHeartbeats 8000000 in
theorem rnd_R12 (a0 a1 a2 a3 a4 a5 a6 a7 a8 a9 a10 a11 a12 a13 u12 : List UInt8) (n10 n11 n5 n6 n7 n8 n9 : Int) {b j : Bool} {K : Ex → Env → Mem → Prop} {R : V} (hK : ∀ e m, K .ret e m = resultsW m e [.cell 2 (some 14), .tmp 3, .tmp 4] fun v => thawW m v fun d => Ret d R) (hs : Fc E n_calendar_IsName [S a12] (B j)) (he : b = (decide (a12 = [45]) || j)) (hu : u12 = undash a12) (hF : b = false → .tup [.d (.agg zeroL), I 12, I 25] = R)
  (ih : b = true → LoopW E ⟨0, 1⟩ [2, 5, 6, 7, 21] keepR b_message_ParseLine_1 (envR (ws14 a0 a1 a2 a3 a4 a5 a6 a7 a8 a9 a10 a11 a12 a13) 13) (memR [.d (.str a0), .d (.str a2), .d (.str a1), .d (.str a3), .d (.str u12), .d (.str a4), .d (.str []), I n5, I n6, I n7, I n8, I n9, I n10, I n11]) K) : LoopW E ⟨0, 1⟩ [2, 5, 6, 7, 21] keepR b_message_ParseLine_1 (envR (ws14 a0 a1 a2 a3 a4 a5 a6 a7 a8 a9 a10 a11 a12 a13) 12) (memR [.d (.str a0), .d (.str a2), .d (.str a1), .d (.str a3), .d (.str []), .d (.str a4), .d (.str []), I n5, I n6, I n7, I n8, I n9, I n10, I n11]) K := by
 by_cases h : a12 = [45]
 ·have hb : b = true := by rw [he, decide_eq_true h]; rfl
  have hu' : u12 = [] := by rw [hu, undash, if_pos h]
  subst hb
  subst hu'
  refine LoopW.step g.lim ?_
  repeat' ((conv => whnf); first
  | refine Ya ?_ | refine Yb ?_ | refine Yc ?_ | refine Yd ?_ | refine Ye ?_ | refine Yf ?_ | refine Yg ?_ | refine Yh ?_ | refine Yi rfl ?_ | refine Yj rfl ?_ | refine Yk rfl ?_ | refine Yl rfl ?_
   | (refine In.enter g.lim rfl code_message_dashed_2 ?_)
   | (refine In.enter g.lim rfl code_message_fields_15 ?_)
   | (refine Some'.ptr (by decide) ?_)
   | (refine Need.mk ⟨rfl, by decide⟩ ?_)
   | (refine Cmp.tt h ?_)
   | (refine Br.not (fun hb => ?_) (fun hb => ?_))
   | (refine (hK _ _).mpr ?_)
   | (refine LoopW.to (ih rfl) rfl rfl)
   | (refine Ret.mk (hF (by assumption))))
 ·have hb : b = j := by rw [he, decide_eq_false h]; rfl
  have hu' : u12 = a12 := by rw [hu, undash, if_neg h]
  subst hb
  subst hu'
  refine LoopW.step g.lim ?_
  repeat' ((conv => whnf); first
  | refine Ya ?_ | refine Yb ?_ | refine Yc ?_ | refine Yd ?_ | refine Ye ?_ | refine Yf ?_ | refine Yg ?_ | refine Yh ?_ | refine Yi rfl ?_ | refine Yj rfl ?_ | refine Yk rfl ?_ | refine Yl rfl ?_
   | (refine In.enter g.lim rfl code_message_dashed_2 ?_)
   | (refine In.enter g.lim rfl code_message_fields_15 ?_)
   | (refine Some'.ptr (by decide) ?_)
   | (refine CallI.of hs ?_)
   | (refine Need.mk ⟨rfl, by decide⟩ ?_)
   | (refine Cmp.ff h ?_)
   | (refine Br.not (fun hb => ?_) (fun hb => ?_))
   | (refine (hK _ _).mpr ?_)
   | (refine LoopW.to (ih (by assumption)) rfl rfl)
   | (refine Ret.mk (hF (by assumption))))
set_option maxHeartbeats 8000000 in
theorem rnd_R13 (a0 a1 a2 a3 a4 a5 a6 a7 a8 a9 a10 a11 a12 a13 u12 u13 : List UInt8) (n10 n11 n5 n6 n7 n8 n9 : Int) {b j : Bool} {K : Ex → Env → Mem → Prop} {R : V} (hK : ∀ e m, K .ret e m = resultsW m e [.cell 2 (some 14), .tmp 3, .tmp 4] fun v => thawW m v fun d => Ret d R) (hs : Fc E n_calendar_IsName [S a13] (B j)) (he : b = (decide (a13 = [45]) || j)) (hu : u13 = undash a13) (hF : b = false → .tup [.d (.agg zeroL), I 13, I 25] = R)
  (ih : b = true → LoopW E ⟨0, 1⟩ [2, 5, 6, 7, 21] keepR b_message_ParseLine_1 (envR (ws14 a0 a1 a2 a3 a4 a5 a6 a7 a8 a9 a10 a11 a12 a13) 14) (memR [.d (.str a0), .d (.str a2), .d (.str a1), .d (.str a3), .d (.str u12), .d (.str a4), .d (.str u13), I n5, I n6, I n7, I n8, I n9, I n10, I n11]) K) : LoopW E ⟨0, 1⟩ [2, 5, 6, 7, 21] keepR b_message_ParseLine_1 (envR (ws14 a0 a1 a2 a3 a4 a5 a6 a7 a8 a9 a10 a11 a12 a13) 13) (memR [.d (.str a0), .d (.str a2), .d (.str a1), .d (.str a3), .d (.str u12), .d (.str a4), .d (.str []), I n5, I n6, I n7, I n8, I n9, I n10, I n11]) K := by
 by_cases h : a13 = [45]
 ·have hb : b = true := by rw [he, decide_eq_true h]; rfl
  have hu' : u13 = [] := by rw [hu, undash, if_pos h]
  subst hb
  subst hu'
  refine LoopW.step g.lim ?_
  repeat' ((conv => whnf); first
  | refine Ya ?_ | refine Yb ?_ | refine Yc ?_ | refine Yd ?_ | refine Ye ?_ | refine Yf ?_ | refine Yg ?_ | refine Yh ?_ | refine Yi rfl ?_ | refine Yj rfl ?_ | refine Yk rfl ?_ | refine Yl rfl ?_
   | (refine In.enter g.lim rfl code_message_dashed_2 ?_)
   | (refine In.enter g.lim rfl code_message_fields_16 ?_)
   | (refine Some'.ptr (by decide) ?_)
   | (refine Need.mk ⟨rfl, by decide⟩ ?_)
   | (refine Cmp.tt h ?_)
   | (refine Br.not (fun hb => ?_) (fun hb => ?_))
   | (refine (hK _ _).mpr ?_)
   | (refine LoopW.to (ih rfl) rfl rfl)
   | (refine Ret.mk (hF (by assumption))))
 ·have hb : b = j := by rw [he, decide_eq_false h]; rfl
  have hu' : u13 = a13 := by rw [hu, undash, if_neg h]
  subst hb
  subst hu'
  refine LoopW.step g.lim ?_
  repeat' ((conv => whnf); first
  | refine Ya ?_ | refine Yb ?_ | refine Yc ?_ | refine Yd ?_ | refine Ye ?_ | refine Yf ?_ | refine Yg ?_ | refine Yh ?_ | refine Yi rfl ?_ | refine Yj rfl ?_ | refine Yk rfl ?_ | refine Yl rfl ?_
   | (refine In.enter g.lim rfl code_message_dashed_2 ?_)
   | (refine In.enter g.lim rfl code_message_fields_16 ?_)
   | (refine Some'.ptr (by decide) ?_)
   | (refine CallI.of hs ?_)
   | (refine Need.mk ⟨rfl, by decide⟩ ?_)
   | (refine Cmp.ff h ?_)
   | (refine Br.not (fun hb => ?_) (fun hb => ?_))
   | (refine (hK _ _).mpr ?_)
   | (refine LoopW.to (ih (by assumption)) rfl rfl)
   | (refine Ret.mk (hF (by assumption))))
set_option maxHeartbeats 8000000 in
theorem core_ParseLine (s : List UInt8) (a0 a1 a2 a3 a4 a5 a6 a7 a8 a9 a10 a11 a12 a13 u12 u13 : List UInt8) (b0 b1 b2 b3 b4 b5 b6 b7 b8 b9 b10 b11 b12 b13 i12 i13 : Bool) (n5 n6 n7 n8 n9 n10 n11 c : Int)
  (sp : Fc E n_strings_Split [S s, S [32]] (.d (.list 14 [.str a0, .str a1, .str a2, .str a3, .str a4, .str a5, .str a6, .str a7, .str a8, .str a9, .str a10, .str a11, .str a12, .str a13])))
  (h0 : Fc E n_message_isAction [S a0] (B b0)) (h1 : Fc E n_calendar_IsName [S a1] (B b1)) (h2 : Fc E n_calendar_IsName [S a2] (B b2)) (h3 : Fc E n_message_isKind [S a3] (B b3)) (h4 : Fc E n_calendar_IsName [S a4] (B b4))
  (h5 : Fc E n_message_number [S a5, I 5] (.tup [I n5, B b5])) (h6 : Fc E n_message_number [S a6, I 5] (.tup [I n6, B b6]))
  (h7 : Fc E n_calendar_ParseMask [S a7] (.tup [I n7, I (if b7 = true then 0 else 25)])) (h8 : Fc E n_message_ParseMinute [S a8] (.tup [I n8, I (if b8 = true then 0 else 25)]))
  (h9 : Fc E n_message_number [S a9, I 3] (.tup [I n9, B b9])) (h10 : Fc E n_message_number [S a10, I 1] (.tup [I n10, B b10])) (h11 : Fc E n_message_number [S a11, I 2] (.tup [I n11, B b11]))
  (h12 : Fc E n_calendar_IsName [S a12] (B i12)) (h13 : Fc E n_calendar_IsName [S a13] (B i13))
  (e12 : b12 = (decide (a12 = [45]) || i12)) (v12 : u12 = undash a12) (e13 : b13 = (decide (a13 = [45]) || i13)) (v13 : u13 = undash a13)
  (hc : Fc E n_message_CheckLine [.d (.agg [.str a0, .str a2, .str a1, .str a3, .str u12, .str a4, .str u13, DI n5, DI n6, DI n7, DI n8, DI n9, DI n10, DI n11])] (I c)) : Fc E n_message_ParseLine [S s] (resF [b0, b1, b2, b3, b4, b5, b6, b7, b8, b9, b10, b11, b12, b13] [.str a0, .str a2, .str a1, .str a3, .str u12, .str a4, .str u13, DI n5, DI n6, DI n7, DI n8, DI n9, DI n10, DI n11] c) := by
 refine g.fn code_message_ParseLine rfl ?_
 repeat' ((conv => whnf); first
 | refine Ya ?_ | refine Yb ?_ | refine Yc ?_ | refine Yd ?_ | refine Ye ?_ | refine Yf ?_ | refine Yg ?_ | refine Yh ?_ | refine Yi rfl ?_ | refine Yj rfl ?_ | refine Yk rfl ?_ | refine Yl rfl ?_
  | (refine CallI.of sp ?_)
  | (refine CallS.fields g rfl ?_)
  | (refine Need.mk ⟨rfl, by decide⟩ ?_))
 refine LoopW.to (e1 := envR (ws14 a0 a1 a2 a3 a4 a5 a6 a7 a8 a9 a10 a11 a12 a13) 0) (m1 := memR [.d (.str []), .d (.str []), .d (.str []), .d (.str []), .d (.str []), .d (.str []), .d (.str []), I 0, I 0, I 0, I 0, I 0, I 0, I 0]) ?_ rfl rfl
 refine rnd_R0 g a0 a1 a2 a3 a4 a5 a6 a7 a8 a9 a10 a11 a12 a13 (fun _ _ => rfl) h0 (fun h => by subst h; rfl) (fun h => ?_)
 subst h
 refine rnd_R1 g a0 a1 a2 a3 a4 a5 a6 a7 a8 a9 a10 a11 a12 a13 (fun _ _ => rfl) h1 (fun h => by subst h; rfl) (fun h => ?_)
 subst h
 refine rnd_R2 g a0 a1 a2 a3 a4 a5 a6 a7 a8 a9 a10 a11 a12 a13 (fun _ _ => rfl) h2 (fun h => by subst h; rfl) (fun h => ?_)
 subst h
 refine rnd_R3 g a0 a1 a2 a3 a4 a5 a6 a7 a8 a9 a10 a11 a12 a13 (fun _ _ => rfl) h3 (fun h => by subst h; rfl) (fun h => ?_)
 subst h
 refine rnd_R4 g a0 a1 a2 a3 a4 a5 a6 a7 a8 a9 a10 a11 a12 a13 (fun _ _ => rfl) h4 (fun h => by subst h; rfl) (fun h => ?_)
 subst h
 refine rnd_R5 g a0 a1 a2 a3 a4 a5 a6 a7 a8 a9 a10 a11 a12 a13 n5 (fun _ _ => rfl) h5 (fun h => by subst h; rfl) (fun h => ?_)
 subst h
 refine rnd_R6 g a0 a1 a2 a3 a4 a5 a6 a7 a8 a9 a10 a11 a12 a13 n5 n6 (fun _ _ => rfl) h6 (fun h => by subst h; rfl) (fun h => ?_)
 subst h
 refine rnd_R7 g a0 a1 a2 a3 a4 a5 a6 a7 a8 a9 a10 a11 a12 a13 n5 n6 n7 (fun _ _ => rfl) h7 (fun h => by subst h; rfl) (fun h => ?_)
 subst h
 refine rnd_R8 g a0 a1 a2 a3 a4 a5 a6 a7 a8 a9 a10 a11 a12 a13 n5 n6 n7 n8 (fun _ _ => rfl) h8 (fun h => by subst h; rfl) (fun h => ?_)
 subst h
 refine rnd_R9 g a0 a1 a2 a3 a4 a5 a6 a7 a8 a9 a10 a11 a12 a13 n5 n6 n7 n8 n9 (fun _ _ => rfl) h9 (fun h => by subst h; rfl) (fun h => ?_)
 subst h
 refine rnd_R10 g a0 a1 a2 a3 a4 a5 a6 a7 a8 a9 a10 a11 a12 a13 n10 n5 n6 n7 n8 n9 (fun _ _ => rfl) h10 (fun h => by subst h; rfl) (fun h => ?_)
 subst h
 refine rnd_R11 g a0 a1 a2 a3 a4 a5 a6 a7 a8 a9 a10 a11 a12 a13 n10 n11 n5 n6 n7 n8 n9 (fun _ _ => rfl) h11 (fun h => by subst h; rfl) (fun h => ?_)
 subst h
 refine rnd_R12 g a0 a1 a2 a3 a4 a5 a6 a7 a8 a9 a10 a11 a12 a13 u12 n10 n11 n5 n6 n7 n8 n9 (fun _ _ => rfl) h12 e12 v12 (fun h => by subst h; rfl) (fun h => ?_)
 subst h
 refine rnd_R13 g a0 a1 a2 a3 a4 a5 a6 a7 a8 a9 a10 a11 a12 a13 u12 u13 n10 n11 n5 n6 n7 n8 n9 (fun _ _ => rfl) h13 e13 v13 (fun h => by subst h; rfl) (fun h => ?_)
 subst h
 refine LoopW.step g.lim ?_
 by_cases hz : c = 0
 ·subst hz
  repeat' ((conv => whnf); first
  | refine Ya ?_ | refine Yb ?_ | refine Yc ?_ | refine Yd ?_ | refine Ye ?_ | refine Yf ?_ | refine Yg ?_ | refine Yh ?_ | refine Yi rfl ?_ | refine Yj rfl ?_ | refine Yk rfl ?_ | refine Yl rfl ?_
   | (refine CallI.of hc ?_)
   | (refine Need.mk ⟨rfl, by decide⟩ ?_)
   | (refine Ret.mk rfl))
 ·repeat' ((conv => whnf); first
 | refine Ya ?_ | refine Yb ?_ | refine Yc ?_ | refine Yd ?_ | refine Ye ?_ | refine Yf ?_ | refine Yg ?_ | refine Yh ?_ | refine Yi rfl ?_ | refine Yj rfl ?_ | refine Yk rfl ?_ | refine Yl rfl ?_
   | (refine CallI.of hc ?_)
   | (refine Cmp.ff hz ?_)
   | (refine Need.mk ⟨rfl, by decide⟩ ?_)
   | (refine Ret.mk ?_))
  simp only [resF, firstF, if_true]
  rw [if_neg hz]
theorem s_ParseLine14 (s : List UInt8) (hs : s.length ≤ 1000000) (w : W14) (hp : parts 32 s = w.list) : Fc E n_message_ParseLine [S s] (resW w) := by
 have sp := s_Split g s hs
 rw [hp] at sp
 have m7 : Fc E n_calendar_ParseMask [S w.a7] (.tup [I (mskV w.a7), I (if decide (isMaskT w.a7) = true then 0 else 25)]) := by
  have := s_ParseMask g w.a7
  unfold mskV
  by_cases h : isMaskT w.a7
  ·rw [if_pos h] at this; rw [if_pos h, if_pos (decide_eq_true h)]; exact this
  ·rw [if_neg h] at this; rw [if_neg h, if_neg (by simpa using h)]; exact this
 have m8 : Fc E n_message_ParseMinute [S w.a8] (.tup [I (minW w.a8), I (if decide (minP w.a8) = true then 0 else 25)]) := by
  have := s_ParseMinute g w.a8
  unfold minW
  by_cases h : minP w.a8
  ·rw [if_pos h, if_pos h] at this; rw [if_pos h, if_pos (decide_eq_true h)]; exact this
  ·rw [if_neg h, if_neg h] at this; rw [if_neg h, if_neg (by simpa using h)]; exact this
 exact core_ParseLine g s w.a0 w.a1 w.a2 w.a3 w.a4 w.a5 w.a6 w.a7 w.a8 w.a9 w.a10 w.a11 w.a12 w.a13 (undash w.a12) (undash w.a13) _ _ _ _ _ _ _ _ _ _ _ _ (dfit w.a12) (dfit w.a13) _ _ _ _ _ _ _ _ _ _
  sp (s_isAction g w.a0) (s_IsName g w.a1) (s_IsName g w.a2) (s_isKind g w.a3) (s_IsName g w.a4) (s_number g w.a5 5 (by omega)) (s_number g w.a6 5 (by omega)) m7 m8 (s_number g w.a9 3 (by omega)) (s_number g w.a10 1 (by omega)) (s_number g w.a11 2 (by omega)) (s_IsName g w.a12) (s_IsName g w.a13) rfl rfl rfl rfl (s_CheckLine g w.line)
theorem s_ParseLine_no (s : List UInt8) (hs : s.length ≤ 1000000) (hp : (parts 32 s).length ≠ 14) : Fc E n_message_ParseLine [S s] (.tup [.d (.agg zeroL), I (if 13 < ((parts 32 s).length : Int) then 13 else ((parts 32 s).length : Int)), I 25]) := by
 refine g.fn code_message_ParseLine rfl ?_
 have sp := s_Split g s hs
 generalize parts 32 s = l at *
 by_cases h : 13 < (l.length : Int)
 ·rw [if_pos h]
  repeat' ((conv => whnf); first
  | refine Ya ?_ | refine Yb ?_ | refine Yc ?_ | refine Yd ?_ | refine Ye ?_ | refine Yf ?_ | refine Yg ?_ | refine Yh ?_ | refine Yi rfl ?_ | refine Yj rfl ?_ | refine Yk rfl ?_ | refine Yl rfl ?_
   | (apply CallI.of; assumption)
   | (refine Ret.mk ?_))
  rw [if_pos h]
 ·rw [if_neg h]
  repeat' ((conv => whnf); first
  | refine Ya ?_ | refine Yb ?_ | refine Yc ?_ | refine Yd ?_ | refine Ye ?_ | refine Yf ?_ | refine Yg ?_ | refine Yh ?_ | refine Yi rfl ?_ | refine Yj rfl ?_ | refine Yk rfl ?_ | refine Yl rfl ?_
   | (apply CallI.of; assumption)
   | (refine Ret.mk ?_))
  rw [if_neg h]
end
end Go.Proofs.YtlnlcdnpgjhaaabGreatDoor.Co
/-
 Messages: ParseMessage, by the program.
-/
namespace Go.Proofs.YtlnlcdnpgjhaaabGreatDoor.Co
open Go Go.Evl
theorem suffix_lf (s : List UInt8) : Lib.hasSuffix s [10] = wholeB s := by
 unfold Lib.hasSuffix wholeB
 rw [Bool.eq_iff_iff, List.isSuffixOf_iff_suffix, decide_eq_true_eq, List.getLast?_eq_some_iff]
 exact ⟨fun ⟨t, e⟩ => ⟨t, e.symm⟩, fun ⟨t, e⟩ => ⟨t, e.symm⟩⟩
theorem indexByte_lf : ∀ (a r : List UInt8), (10 : UInt8) ∉ a → Lib.indexByte (a ++ 10 :: r) 10 = a.length
 | [], _, _ => rfl
 | c :: a, r, h => by
  have hc : (c == 10) = false := beq_eq_false_iff_ne.2 fun e => h (by simp [e])
  have ih := indexByte_lf a r fun hm => h (by simp [hm])
  simp only [List.cons_append, Lib.indexByte, hc, ih, List.length_cons]
  rw [if_neg (by decide), if_neg (by simp)]
  omega
theorem indexByte_no : ∀ (a : List UInt8), (10 : UInt8) ∉ a → Lib.indexByte a 10 = -1
 | [], _ => rfl
 | c :: a, h => by
  have hc : (c == 10) = false := beq_eq_false_iff_ne.2 fun e => h (by simp [e])
  have ih := indexByte_no a fun hm => h (by simp [hm])
  simp only [Lib.indexByte, hc, ih]
  rfl
theorem endW_le (p : List UInt8) : (endW p).length ≤ p.length := by
 unfold endW
 split
 ·simp
 ·exact Nat.le_refl _
theorem endW_win {p : List UInt8} (h : wholeB p = true) : 1 ≤ p.length ∧ endW p = p.take (p.length - 1) := by
 have e := whole_eq h
 constructor
 ·rw [e]; simp
 ·unfold endW
  rw [if_pos h, List.dropLast_eq_take]
theorem headP_nw {p : List UInt8} (h : wholeB p = false) : headP p = none := by
 unfold headP
 split
 ·rw [if_neg (by rw [h]; simp)]
 ·rfl
theorem headP_len {p : List UInt8} (h : (parts 32 (endW p)).length ≠ 5) : headP p = none := by
 unfold headP
 split
 ·rename_i e; rw [e] at h; exact absurd rfl h
 ·rfl
theorem headP_five {p w0 w1 w2 w3 w4 : List UInt8} (h : parts 32 (endW p) = [w0, w1, w2, w3, w4]) : headP p = if wholeB p = true ∧ w0 = SLOTS ∧ msgB w1 = true ∧ numB w4 5 = true ∧ headE w2 w3 (valA 0 w4) = 0 then some ⟨w1, w2, w3, valA 0 w4, []⟩ else none := by
 unfold headP
 rw [h]
theorem list5 {l : List (List UInt8)} (h : l.length = 5) : ∃ a b c d e, l = [a, b, c, d, e] := by
 match l, h with
 | [a, b, c, d, e], _ => exact ⟨a, b, c, d, e, rfl⟩
section
variable {E : Oracle} (g : Good E)
include g
set_option maxRecDepth 100000
theorem s_CutLF (p : List UInt8) (hs : p.length ≤ 1000000) : Fc E n_strings_CutSuffix [S p, S [10]] (.tup [S (endW p), B (wholeB p)]) := by
 have h0 : Fc E n_internal_stringslite_HasSuffix [S p, S [10]] (B (wholeB p)) := Fc.extern g.lim (x := suffixX) rfl (v := B (wholeB p)) (m' := []) (by simp only [suffixX]; rw [if_pos hs, suffix_lf]) rfl
 have h1 : Fc E n_internal_stringslite_CutSuffix [S p, S [10]] (.tup [S (endW p), B (wholeB p)]) := by
  refine g.fn code_internal_stringslite_CutSuffix rfl ?_
  cases hw : wholeB p
  ·rw [hw] at h0
   have e : endW p = p := by unfold endW; rw [hw]; rfl
   rw [e]
   repeat' ((conv => whnf); first
   | refine Ya ?_ | refine Yb ?_ | refine Yc ?_ | refine Yd ?_ | refine Ye ?_ | refine Yf ?_ | refine Yg ?_ | refine Yh ?_ | refine Yi rfl ?_ | refine Yj rfl ?_ | refine Yk rfl ?_ | refine Yl rfl ?_
    | (apply CallI.of; assumption)
    | (refine Ret.mk rfl))
  ·rw [hw] at h0
   obtain ⟨hl, e⟩ := endW_win hw
   have h10 : (([10] : List UInt8).length : Int) = 1 := rfl
   rw [e]
   repeat' ((conv => whnf); first
   | refine Ya ?_ | refine Yb ?_ | refine Yc ?_ | refine Yd ?_ | refine Ye ?_ | refine Yf ?_ | refine Yg ?_ | refine Yh ?_ | refine Yi rfl ?_ | refine Yj rfl ?_ | refine Yk rfl ?_ | refine Yl rfl ?_
    | (apply CallI.of; assumption)
    | (refine Bounds.mk (by omega) ?_)
    | (refine Ret.mk ?_))
   simp [win]
 refine g.fn code_strings_CutSuffix rfl ?_
 repeat' ((conv => whnf); first
 | refine Ya ?_ | refine Yb ?_ | refine Yc ?_ | refine Yd ?_ | refine Ye ?_ | refine Yf ?_ | refine Yg ?_ | refine Yh ?_ | refine Yi rfl ?_ | refine Yj rfl ?_ | refine Yk rfl ?_ | refine Yl rfl ?_
  | (apply CallI.of; assumption)
  | (refine Ret.mk rfl))
theorem s_IndexLF (s : List UInt8) : Fc E n_strings_IndexByte [S s, .d (.int .u8 10)] (I (Lib.indexByte s 10)) := by
 have h0 : Fc E n_internal_stringslite_IndexByte [S s, .d (.int .u8 10)] (I (Lib.indexByte s 10)) := Fc.extern g.lim (x := indexByteX) rfl (v := I (Lib.indexByte s 10)) (m' := []) rfl rfl
 refine g.fn code_strings_IndexByte rfl ?_
 repeat' ((conv => whnf); first
 | refine Ya ?_ | refine Yb ?_ | refine Yc ?_ | refine Yd ?_ | refine Ye ?_ | refine Yf ?_ | refine Yg ?_ | refine Yh ?_ | refine Yi rfl ?_ | refine Yj rfl ?_ | refine Yk rfl ?_ | refine Yl rfl ?_
  | (apply CallI.of; assumption)
  | (refine Ret.mk rfl))
theorem s_lineP (s : List UInt8) (hs : s.length ≤ 1000000) : ∃ i : Int, Fc E n_message_ParseLine [S s] (.tup [Lnv (lineP s).1, I i, I (lineP s).2]) := by
 unfold lineP
 cases hw : wList (parts 32 s) with
 | none => exact ⟨_, s_ParseLine_no g s hs (wList_none hw)⟩
 | some w =>
  have h := s_ParseLine14 g s hs w (wList_some hw)
  unfold resW resF at h
  simp only
  unfold lineW
  split at h
  ·rename_i hf
   rw [if_pos hf]
   split at h
   ·rename_i hc; rw [if_pos hc]; exact ⟨_, h⟩
   ·rename_i hc; rw [if_neg hc]; exact ⟨_, h⟩
  ·rename_i hf
   rw [if_neg hf]
   exact ⟨_, h⟩
theorem s_texts (s : List UInt8) : In E 0 n_message_texts [S s] [] fun v m' => v = .fn n_message_texts_1 [] [.ptr ⟨0, 1, 0⟩ 0 0] ∧ m' = [(⟨0, 1, 0⟩, .cells ty_string [S s])] := by
 refine In.enter g.lim rfl code_message_texts ?_
 repeat' ((conv => whnf); first
 | refine Ya ?_ | refine Yb ?_ | refine Yc ?_ | refine Yd ?_ | refine Ye ?_ | refine Yf ?_ | refine Yg ?_ | refine Yh ?_ | refine Yi rfl ?_ | refine Yj rfl ?_ | refine Yk rfl ?_ | refine Yl rfl ?_
  | (exact ⟨rfl, rfl⟩))
theorem CallS.texts {s : List UInt8} {cx : Cx} {slot : Nat} {m : Mem} {K : V → Mem → Prop} (hf : Go.Evl.freeK cx.lv slot m = 0) (h : K (.fn n_message_texts_1 [] [.ptr ⟨cx.lv, slot, 0⟩ 0 0]) (m ++ [(⟨cx.lv, slot, 0⟩, .cells ty_string [S s])])) : CallS E n_message_texts [S s] cx slot m K := by
 obtain ⟨v, m', h1, rfl, rfl⟩ := (s_texts g s).got
 refine ⟨_, _, (.fn n_message_texts_1 [] [.ptr ⟨cx.lv, slot, 0⟩ 0 0], m ++ [(⟨cx.lv, slot, 0⟩, .cells ty_string [S s])]), h1, ?_, h⟩
 unfold Go.Evl.settle
 rw [hf]
 rfl
def HeadV (v : V) (m' : Mem) (site : Nat) (h : Mst) (b : Bool) : Prop := v = .tup [.agg [S h.ki, S h.ai, S h.se, I h.da, .ref ⟨0, site, 0⟩ 0 0 0], B b] ∧ m' = [(⟨0, 2, 0⟩, .row false ty_message_Line 14 0 []), (⟨0, 2, 1⟩, .cells ty_message_Message [S h.ki, S h.ai, S h.se, I h.da, .ref ⟨0, site, 0⟩ 0 0 0]), (⟨0, site, 0⟩, .row false ty_message_Line 14 0 [])]
set_option maxHeartbeats 8000000 in
theorem s_head_none (p : List UInt8) (hs : p.length ≤ 1000000) (hn : headP p = none) : ∃ h : Mst, In E 0 n_message_head [S p] [] fun v m' => HeadV v m' 36 h false ∨ HeadV v m' 54 h false := by
 have hcut := s_CutLF g p hs
 have hsp := s_Split g (endW p) (Nat.le_trans (endW_le p) hs)
 cases hw : wholeB p
 ·rw [hw] at hcut
  refine ⟨zeroM, In.enter g.lim rfl code_message_head ?_⟩
  repeat' ((conv => whnf); first
  | refine Ya ?_ | refine Yb ?_ | refine Yc ?_ | refine Yd ?_ | refine Ye ?_ | refine Yf ?_ | refine Yg ?_ | refine Yh ?_ | refine Yi rfl ?_ | refine Yj rfl ?_ | refine Yk rfl ?_ | refine Yl rfl ?_
   | (apply CallI.of; assumption)
   | (refine Cmp.tt (by simp only [List.length_cons, List.length_nil]; omega) ?_) | (refine Cmp.ff (by simp only [List.length_cons, List.length_nil]; omega) ?_)
   | (exact .inl ⟨rfl, rfl⟩))
 ·rw [hw] at hcut
  by_cases hl : (parts 32 (endW p)).length = 5
  ·obtain ⟨w0, w1, w2, w3, w4, he⟩ := list5 hl
   rw [headP_five he, hw] at hn
   rw [he] at hsp
   by_cases h0 : w0 = SLOTS
   ·have hm := s_isMessage g w1
    cases hm1 : msgB w1
    ·rw [hm1] at hm
     refine ⟨zeroM, In.enter g.lim rfl code_message_head ?_⟩
     repeat' ((conv => whnf); first
     | refine Ya ?_ | refine Yb ?_ | refine Yc ?_ | refine Yd ?_ | refine Ye ?_ | refine Yf ?_ | refine Yg ?_ | refine Yh ?_ | refine Yi rfl ?_ | refine Yj rfl ?_ | refine Yk rfl ?_ | refine Yl rfl ?_
      | (apply CallI.of; assumption)
      | (refine Cmp.tt (by simp only [List.length_cons, List.length_nil]; omega) ?_) | (refine Cmp.ff (by simp only [List.length_cons, List.length_nil]; omega) ?_)
      | (refine Cmp.tt h0 ?_)
      | (exact .inl ⟨rfl, rfl⟩))
    ·rw [hm1] at hm
     have hnum := s_number g w4 5 (by omega)
     cases hn1 : numB w4 5
     ·rw [hn1] at hnum
      refine ⟨⟨w1, w2, w3, 0, []⟩, In.enter g.lim rfl code_message_head ?_⟩
      repeat' ((conv => whnf); first
      | refine Ya ?_ | refine Yb ?_ | refine Yc ?_ | refine Yd ?_ | refine Ye ?_ | refine Yf ?_ | refine Yg ?_ | refine Yh ?_ | refine Yi rfl ?_ | refine Yj rfl ?_ | refine Yk rfl ?_ | refine Yl rfl ?_
       | (apply CallI.of; assumption)
       | (refine Cmp.tt (by simp only [List.length_cons, List.length_nil]; omega) ?_) | (refine Cmp.ff (by simp only [List.length_cons, List.length_nil]; omega) ?_)
       | (refine Cmp.tt h0 ?_)
       | (exact .inr ⟨rfl, rfl⟩))
     ·rw [hn1] at hnum
      have hd := s_checkHead g w2 w3 (valA 0 w4)
      have hz : headE w2 w3 (valA 0 w4) ≠ 0 := fun h => by
       rw [if_pos ⟨rfl, h0, hm1, hn1, h⟩] at hn
       cases hn
      refine ⟨⟨w1, w2, w3, valA 0 w4, []⟩, In.enter g.lim rfl code_message_head ?_⟩
      repeat' ((conv => whnf); first
      | refine Ya ?_ | refine Yb ?_ | refine Yc ?_ | refine Yd ?_ | refine Ye ?_ | refine Yf ?_ | refine Yg ?_ | refine Yh ?_ | refine Yi rfl ?_ | refine Yj rfl ?_ | refine Yk rfl ?_ | refine Yl rfl ?_
       | (apply CallI.of; assumption)
       | (refine Cmp.tt (by simp only [List.length_cons, List.length_nil]; omega) ?_) | (refine Cmp.ff (by simp only [List.length_cons, List.length_nil]; omega) ?_)
       | (refine Cmp.tt h0 ?_)
       | (refine Cmp.ff hz ?_)
       | (exact .inr ⟨rfl, rfl⟩))
   ·refine ⟨zeroM, In.enter g.lim rfl code_message_head ?_⟩
    repeat' ((conv => whnf); first
    | refine Ya ?_ | refine Yb ?_ | refine Yc ?_ | refine Yd ?_ | refine Ye ?_ | refine Yf ?_ | refine Yg ?_ | refine Yh ?_ | refine Yi rfl ?_ | refine Yj rfl ?_ | refine Yk rfl ?_ | refine Yl rfl ?_
     | (apply CallI.of; assumption)
     | (refine Cmp.tt (by simp only [List.length_cons, List.length_nil]; omega) ?_) | (refine Cmp.ff (by simp only [List.length_cons, List.length_nil]; omega) ?_)
     | (refine Cmp.ff h0 ?_)
     | (exact .inl ⟨rfl, rfl⟩))
  ·refine ⟨zeroM, In.enter g.lim rfl code_message_head ?_⟩
   repeat' ((conv => whnf); first
   | refine Ya ?_ | refine Yb ?_ | refine Yc ?_ | refine Yd ?_ | refine Ye ?_ | refine Yf ?_ | refine Yg ?_ | refine Yh ?_ | refine Yi rfl ?_ | refine Yj rfl ?_ | refine Yk rfl ?_ | refine Yl rfl ?_
    | (apply CallI.of; assumption)
    | (refine Cmp.tt (by simp only [List.length_cons, List.length_nil]; omega) ?_) | (refine Cmp.ff (by simp only [List.length_cons, List.length_nil]; omega) ?_)
    | (exact .inl ⟨rfl, rfl⟩))
set_option maxHeartbeats 8000000 in
theorem s_head_some (p : List UInt8) (hs : p.length ≤ 1000000) (h : Mst) (hn : headP p = some h) : In E 0 n_message_head [S p] [] fun v m' => HeadV v m' 54 h true := by
 have hcut := s_CutLF g p hs
 have hsp := s_Split g (endW p) (Nat.le_trans (endW_le p) hs)
 have hl : (parts 32 (endW p)).length = 5 := Decidable.byContradiction fun hc => by rw [headP_len hc] at hn; cases hn
 obtain ⟨w0, w1, w2, w3, w4, he⟩ := list5 hl
 rw [headP_five he] at hn
 split at hn
 ·rename_i hc
  obtain ⟨hw, h0, hm1, hn1, hz⟩ := hc
  obtain rfl := Option.some.inj hn
  rw [hw] at hcut
  rw [he] at hsp
  have hm := s_isMessage g w1
  rw [hm1] at hm
  have hnum := s_number g w4 5 (by omega)
  rw [hn1] at hnum
  have hd := s_checkHead g w2 w3 (valA 0 w4)
  refine In.enter g.lim rfl code_message_head ?_
  repeat' ((conv => whnf); first
  | refine Ya ?_ | refine Yb ?_ | refine Yc ?_ | refine Yd ?_ | refine Ye ?_ | refine Yf ?_ | refine Yg ?_ | refine Yh ?_ | refine Yi rfl ?_ | refine Yj rfl ?_ | refine Yk rfl ?_ | refine Yl rfl ?_
   | (apply CallI.of; assumption)
   | (refine Cmp.tt (by simp only [List.length_cons, List.length_nil]; omega) ?_) | (refine Cmp.ff (by simp only [List.length_cons, List.length_nil]; omega) ?_)
   | (refine Cmp.tt h0 ?_)
   | (refine Cmp.tt hz ?_)
   | (exact ⟨rfl, rfl⟩))
 ·cases hn
theorem CallS.head_none {p : List UInt8} (hs : p.length ≤ 1000000) (hn : headP p = none) {cx : Cx} {slot : Nat} {m : Mem} {K : V → Mem → Prop} (hf : Go.Evl.freeK cx.lv slot m = 0) (k : ∀ h : Mst, K (.tup [.agg [S h.ki, S h.ai, S h.se, I h.da, .ref ⟨cx.lv, slot, 0⟩ 0 0 0], B false]) (m ++ [(⟨cx.lv, slot, 0⟩, .row false ty_message_Line 14 0 [])])) : CallS E n_message_head [S p] cx slot m K := by
 obtain ⟨h, hh⟩ := s_head_none g p hs hn
 obtain ⟨v, m', h1, h2⟩ := hh.got
 rcases h2 with ⟨rfl, rfl⟩ | ⟨rfl, rfl⟩
 all_goals
  refine ⟨_, _, (.tup [.agg [S h.ki, S h.ai, S h.se, I h.da, .ref ⟨cx.lv, slot, 0⟩ 0 0 0], B false], m ++ [(⟨cx.lv, slot, 0⟩, .row false ty_message_Line 14 0 [])]), h1, ?_, k h⟩
  unfold Go.Evl.settle
  rw [hf]
  rfl
theorem CallS.head_some {p : List UInt8} (hs : p.length ≤ 1000000) {h : Mst} (hn : headP p = some h) {cx : Cx} {slot : Nat} {m : Mem} {K : V → Mem → Prop} (hf : Go.Evl.freeK cx.lv slot m = 0) (k : K (.tup [.agg [S h.ki, S h.ai, S h.se, I h.da, .ref ⟨cx.lv, slot, 0⟩ 0 0 0], B true]) (m ++ [(⟨cx.lv, slot, 0⟩, .row false ty_message_Line 14 0 [])])) : CallS E n_message_head [S p] cx slot m K := by
 obtain ⟨v, m', h1, rfl, rfl⟩ := (s_head_some g p hs h hn).got
 refine ⟨_, _, (.tup [.agg [S h.ki, S h.ai, S h.se, I h.da, .ref ⟨cx.lv, slot, 0⟩ 0 0 0], B true], m ++ [(⟨cx.lv, slot, 0⟩, .row false ty_message_Line 14 0 [])]), h1, ?_, k⟩
 unfold Go.Evl.settle
 rw [hf]
 rfl
end
open Go Go.Evl
theorem win_head (a r : List UInt8) : win (a ++ 10 :: r) 0 (a.length + 1 - 0) = a ++ [10] := by
 unfold win
 rw [List.drop_zero, Nat.sub_zero, show a ++ 10 :: r = (a ++ [10]) ++ r by simp, List.take_append_of_le_length (by simp), List.take_of_length_le (by simp)]
theorem win_tail (a r : List UInt8) : win (a ++ 10 :: r) (a.length + 1) ((a ++ 10 :: r).length - (a.length + 1)) = r := by
 unfold win
 rw [show a ++ 10 :: r = (a ++ [10]) ++ r by simp, List.drop_left' (by simp), List.take_of_length_le (by simp; omega)]
theorem parts_len (b : UInt8) : ∀ s : List UInt8, (parts b s).length ≤ s.length + 1
 | [] => by simp [parts]
 | x :: r => by
  have ih := parts_len b r
  rw [parts]
  split
  ·simp; omega
  ·split
   ·simp
   ·rename_i h; rw [h] at ih; simp only [List.length_cons] at ih ⊢; omega
theorem win_all (s : List UInt8) : win s 0 (s.length - 0) = s := by simp [win]
theorem LoopW.two {σ : Type} {E : Oracle} (g : Good E) {cx : Cx} {live : List Nat} {keep : List Evl.Id} {body : C} {K : Ex → Env → Mem → Prop} {e0 : Env} {m0 : Mem} (inv : σ → Prop) (env : σ → Env) (mem : σ → Mem) (μ : σ → Nat)
  (h : ∀ s, inv s → (∀ s', inv s' → μ s' < μ s → LoopW E cx live keep body (env s') (mem s') K) → wpC E cx body (env s) (mem s) (againK E cx live keep body K))
  (first : (∀ s, inv s → LoopW E cx live keep body (env s) (mem s) K) → LoopW E cx live keep body e0 m0 K) : LoopW E cx live keep body e0 m0 K := first (LoopW.by g inv env mem μ h)
theorem parseG_open {m : Mst} {i : Nat} {p : List UInt8} {r : List (List UInt8)} (h : wholeB p = false) : parseG m i (p :: r) = (zeroM, i, 25) := by
 rw [parseG, if_pos h]
theorem parseG_line {m : Mst} {i : Nat} {a w0 : List UInt8} {wr r : List (List UInt8)} (hp : parts 32 a = w0 :: wr) (h0 : w0 ≠ ENDW) : parseG m i ((a ++ [10]) :: r) = if (lineP a).2 ≠ 0 then (zeroM, i, (lineP a).2) else if 64 ≤ m.ls.length then (zeroM, i, 5) else parseG { m with ls := m.ls ++ [(lineP a).1] } (i + 1) r := by
 rw [parseG, (whole_lf _).1, (whole_lf _).2, if_neg (by decide), hp, if_pos (by simpa using h0)]
theorem parseG_bad {m : Mst} {i : Nat} {a : List UInt8} {wr r : List (List UInt8)} (hp : parts 32 a = ENDW :: wr) (hl : wr.length ≠ 1) : parseG m i ((a ++ [10]) :: r) = (zeroM, i, 25) := by
 rw [parseG, (whole_lf _).1, (whole_lf _).2, if_neg (by decide), hp, if_neg (by simp)]
 match wr, hl with
 | [], _ => rfl
 | _ :: _ :: _, _ => rfl
def parseO (a : Mst) (i : Nat) (s : List UInt8) : Mst × Nat × Int :=
 if s ≠ [] then (zeroM, i, 25) else if (chkLs a.ki none 0 a.ls).2 ≠ 0 then (zeroM, (chkLs a.ki none 0 a.ls).1 + 1, (chkLs a.ki none 0 a.ls).2) else (a, 0, 0)
theorem parseG_end {m : Mst} {i : Nat} {a x s : List UInt8} (hp : parts 32 a = [ENDW, x]) : parseG m i ((a ++ [10]) :: pcs s) = if numB x 2 = false then (zeroM, i, 25) else if valA 0 x ≠ m.ls.length then (zeroM, i, 27) else parseO m (i + 1) s := by
 rw [parseG, (whole_lf _).1, (whole_lf _).2, if_neg (by decide), hp, if_neg (by simp)]
 unfold parseO
 by_cases hs : s = []
 ·subst hs; simp [pcs_nil]
 ·have := pcs_ne hs
  simp only [hs, this, ne_eq, not_false_eq_true, if_true]
structure PSt where
 a : Mst
 i : Nat
 s : List UInt8
 ov : Bool
def PSt.res (st : PSt) : Mst × Nat × Int := if st.ov then parseO st.a st.i st.s else parseG st.a st.i (pcs st.s)
structure PSt.Inv (s0 : List UInt8) (st : PSt) : Prop where
 ln : st.a.ls.length ≤ 64
 pos : 1 ≤ st.i
 len : st.i + st.s.length ≤ s0.length
 res : st.res = parseM s0
theorem chkLs_le1 (kind : List UInt8) : ∀ (ls : List Lnt) (p : Option Lnt) (i : Nat), (chkLs kind p i ls).1 ≤ i + ls.length
 | [], p, i => by
  simp only [chkLs]
  split <;> simp
 | x :: r, p, i => by
  simp only [chkLs]
  split
  ·have := chkLs_le1 kind r (some x) (i + 1)
   simp only [List.length_cons]
   omega
  ·simp
theorem chkLs_le (kind : List UInt8) (ls : List Lnt) : (chkLs kind none 0 ls).1 ≤ ls.length := by
 have := chkLs_le1 kind ls none 0
 omega
theorem list_last {α : Type} (x : α) (l : List α) : ∃ y, (x :: l)[l.length]? = some y := ⟨_, List.getElem?_eq_getElem (by simp)⟩
section
variable {E : Oracle} (g : Good E)
include g
set_option maxRecDepth 100000
set_option maxHeartbeats 40000000 in
theorem s_ParseMessage (s0 : List UInt8) (hs0 : s0.length ≤ 1000000) : Fc E n_message_ParseMessage [S s0] (.tup [Msv (parseM s0).1, I ((parseM s0).2.1 : Nat), I (parseM s0).2.2]) := by
 refine g.fn code_message_ParseMessage rfl ?_
 by_cases hl0 : 16384 < s0.length
 ·have hp : parseM s0 = (zeroM, 0, 26) := by unfold parseM; rw [if_pos hl0]
  rw [hp]
  repeat' ((conv => whnf); first
  | refine Ya ?_ | refine Yb ?_ | refine Yc ?_ | refine Yd ?_ | refine Ye ?_ | refine Yf ?_ | refine Yg ?_ | refine Yh ?_ | refine Yi rfl ?_ | refine Yj rfl ?_ | refine Yk rfl ?_ | refine Yl rfl ?_
   | (refine Ret.mk rfl))
 ·repeat' ((conv => whnf); first
 | refine Ya ?_ | refine Yb ?_ | refine Yc ?_ | refine Yd ?_ | refine Ye ?_ | refine Yf ?_ | refine Yg ?_ | refine Yh ?_ | refine Yi rfl ?_ | refine Yj rfl ?_ | refine Yk rfl ?_ | refine Yl rfl ?_
   | (refine CallS.texts g rfl ?_)
   | (refine In.enter g.lim rfl code_message_texts_1 ?_))
  refine LoopW.two g (PSt.Inv s0)
   (fun st => [(0, .yld ⟨0, 141, 0⟩), (1, .ptr ⟨0, 28, 0⟩ 0 0), (3, I st.i)])
   (fun st => [(⟨0, 2, 0⟩, .row false ty_message_Line 14 0 []), (⟨0, 2, 1⟩, .cells ty_message_Message [S [], S [], S [], I 0, .ref ⟨0, 2, 0⟩ 0 0 0]), (⟨0, 3, 0⟩, .cells ty_int [I 0]), (⟨0, 4, 0⟩, .cells ty_api_Errno [I 0]), (⟨0, 5, 0⟩, .row false ty_message_Line 14 0 []), (⟨0, 5, 1⟩, .cells ty_message_Message [S st.a.ki, S st.a.ai, S st.a.se, I st.a.da, .ref ⟨0, 76, 0⟩ 0 st.a.ls.length st.a.ls.length]), (⟨0, 6, 0⟩, .cells ty_int [I st.i]), (⟨0, 7, 0⟩, .cells ty_bool [B st.ov]), (⟨0, 28, 0⟩, .cells ty_string [S st.s]), (⟨0, 141, 0⟩, .loop [(2, .ptr ⟨0, 2, 1⟩ 0 0), (3, .ptr ⟨0, 3, 0⟩ 0 0), (4, .ptr ⟨0, 4, 0⟩ 0 0), (25, B false), (5, .ptr ⟨0, 5, 1⟩ 0 0), (6, .ptr ⟨0, 6, 0⟩ 0 0), (7, .ptr ⟨0, 7, 0⟩ 0 0), (28, .fn n_message_texts_1 [] [.ptr ⟨0, 28, 0⟩ 0 0])] [29, 30] b_message_ParseMessage_1 b_message_ParseMessage_2 0 false false none), (⟨0, 76, 0⟩, .row false ty_message_Line 14 st.a.ls.length (st.a.ls.flatMap Lnt.cells))])
   (fun st => st.s.length) ?_ ?_
  ·rintro ⟨⟨ki, ai, se, da, ls⟩, i, s, ov⟩ ⟨i1, i2, i3, i4⟩ ih
   simp only [PSt.res] at i1 i2 i3 i4 ih
   dsimp only
   by_cases hs : s = []
   ·subst hs
    cases ov
    ·rw [if_neg (by decide), pcs_nil, parseG] at i4
     rw [← i4]
     repeat' ((conv => whnf); first
     | refine Ya ?_ | refine Yb ?_ | refine Yc ?_ | refine Yd ?_ | refine Ye ?_ | refine Yf ?_ | refine Yg ?_ | refine Yh ?_ | refine Yi rfl ?_ | refine Yj rfl ?_ | refine Yk rfl ?_ | refine Yl rfl ?_
      | (refine Need.mk ⟨rfl, by simp⟩ ?_)
      | (refine Ret.mk rfl))
    ·rw [if_pos rfl, parseO, if_neg (by simp)] at i4
     have hcl : ∀ {n : Nat} {cs : List D}, n = ls.length → cs = ls.flatMap Lnt.cells → Fc E n_message_checkLines [S ki, .d (.list n cs)] (.tup [I ((chkLs ki none 0 ls).1 : Nat), I (chkLs ki none 0 ls).2]) := by
      rintro _ _ rfl rfl
      exact s_checkLines g ki ls (by omega)
     by_cases hc : (chkLs ki none 0 ls).2 = 0
     ·rw [if_neg (by simp [hc])] at i4
      rw [← i4]
      generalize chkLs ki none 0 ls = c at *
      repeat' ((conv => whnf); first
      | refine Ya ?_ | refine Yb ?_ | refine Yc ?_ | refine Yd ?_ | refine Ye ?_ | refine Yf ?_ | refine Yg ?_ | refine Yh ?_ | refine Yi rfl ?_ | refine Yj rfl ?_ | refine Yk rfl ?_ | refine Yl rfl ?_
       | (refine Need.mk ⟨rfl, by simp⟩ ?_)
       | (refine CallI.of (hcl rfl (by simp)) ?_)
       | (refine Cmp.tt hc ?_)
       | (refine Ret.mk ?_))
      rw [if_pos ⟨rfl, rfl⟩]
      rfl
     ·rw [if_pos hc] at i4
      rw [← i4]
      have hb := chkLs_le ki ls
      generalize chkLs ki none 0 ls = c at *
      repeat' ((conv => whnf); first
      | refine Ya ?_ | refine Yb ?_ | refine Yc ?_ | refine Yd ?_ | refine Ye ?_ | refine Yf ?_ | refine Yg ?_ | refine Yh ?_ | refine Yi rfl ?_ | refine Yj rfl ?_ | refine Yk rfl ?_ | refine Yl rfl ?_
       | (refine Need.mk ⟨rfl, by simp⟩ ?_)
       | (refine CallI.of (hcl rfl (by simp)) ?_)
       | (refine Cmp.ff hc ?_)
       | (refine Ret.mk rfl))
   ·rcases pcs_cases s hs with ⟨hn, hp⟩ | ⟨a, r, hn, rfl, hp⟩
    ·have hw : wholeB s = false := decide_eq_false fun e => by
      obtain ⟨t, e⟩ := List.getLast?_eq_some_iff.1 e
      exact hn (by rw [e]; simp)
     have he : endW s = s := by unfold endW; rw [hw]; rfl
     have hv : parseM s0 = (zeroM, i, 25) := by
      rw [← i4]
      cases ov
      ·rw [if_neg (by decide), hp, parseG_open hw]
      ·rw [if_pos rfl, parseO, if_pos hs]
     rw [hv]
     have hx := s_IndexLF g s
     rw [indexByte_no s hn] at hx
     have hcut := s_CutLF g s (by omega)
     rw [hw, he] at hcut
     have hsp := s_Split g s (by omega)
     have hpos : s.length ≠ 0 := fun e => hs (List.length_eq_zero_iff.1 e)
     repeat' ((conv => whnf); first
     | refine Ya ?_ | refine Yb ?_ | refine Yc ?_ | refine Yd ?_ | refine Ye ?_ | refine Yf ?_ | refine Yg ?_ | refine Yh ?_ | refine Yi rfl ?_ | refine Yj rfl ?_ | refine Yk rfl ?_ | refine Yl rfl ?_
      | (refine Need.mk ⟨rfl, by simp⟩ ?_)
      | (apply CallI.of; assumption)
      | (refine Rnd.enter g.lim ?_)
      | (refine Bounds.at 0 s.length (by omega) (by omega) (by omega) ?_ <;> (try dsimp only) <;> (rw [win_all]))
      | (refine Cmp.ff hs ?_)
      | (refine Ret.mk rfl))
    ·have hlen : (a ++ 10 :: r).length = a.length + (r.length + 1) := by simp
     have hx := s_IndexLF g (a ++ 10 :: r)
     rw [indexByte_lf a r hn] at hx
     have hcut := s_CutLF g (a ++ [10]) (by simp; omega)
     rw [(whole_lf _).1, (whole_lf _).2] at hcut
     have hsp := s_Split g a (by omega)
     cases ov
     ·rw [if_neg (by decide), hp] at i4
      cases hpa : parts 32 a with
      | nil => exact absurd hpa (parts_ne 32 a)
      | cons w0 wr =>
       rw [hpa] at hsp
       by_cases h0 : w0 = ENDW
       ·subst h0
        by_cases hwr : wr.length = 1
        ·obtain ⟨x, rfl⟩ := List.length_eq_one_iff.1 hwr
         rw [parseG_end hpa] at i4
         have hnum := s_number g x 2 (by omega)
         have h2l : (([ENDW, x] : List (List UInt8)).length : Int) = 2 := rfl
         cases hnb : numB x 2
         ·rw [hnb] at hnum i4
          rw [if_pos rfl] at i4
          rw [← i4]
          repeat' ((conv => whnf); first
          | refine Ya ?_ | refine Yb ?_ | refine Yc ?_ | refine Yd ?_ | refine Ye ?_ | refine Yf ?_ | refine Yg ?_ | refine Yh ?_ | refine Yi rfl ?_ | refine Yj rfl ?_ | refine Yk rfl ?_ | refine Yl rfl ?_
           | (refine Need.mk ⟨rfl, by simp⟩ ?_)
           | (apply CallI.of; assumption)
           | (refine Rnd.enter g.lim ?_)
           | (refine Bounds.at 0 (a.length + 1) (by omega) (by omega) (by omega) ?_ <;> (try dsimp only) <;> (rw [win_head]))
           | (refine Bounds.at (a.length + 1) (a ++ 10 :: r).length (by omega) (by omega) (by omega) ?_ <;> (try dsimp only) <;> (rw [win_tail]))
           | (refine Cmp.ff hs ?_)
           | (refine CallI.of (s_mwhen g _ _) ?_)
           | (refine CallI.of (s_mfirst2 g _ _) ?_)
           | (refine Pick.now rfl ?_)
           | (refine Ret.mk rfl)
           | (refine Cmp.tt (by simp only [List.length_cons, List.length_nil]; omega) ?_) | (refine Cmp.ff (by simp only [List.length_cons, List.length_nil]; omega) ?_)
           | (refine Cmp.mk (fun h => ?_) (fun h => ?_)) | (refine Rem.any (by omega) (fun r hr he => ?_)) | (refine Br.mk (fun h => ?_) (fun h => ?_))
           | (exfalso; omega))
         ·rw [hnb] at hnum i4
          rw [if_neg (by decide)] at i4
          by_cases hcn : valA 0 x = ls.length
          ·rw [if_neg (by simpa using hcn)] at i4
           have ih := ih ⟨⟨ki, ai, se, da, ls⟩, i + 1, r, true⟩ ⟨i1, by simp only; omega, by simp only; omega, i4⟩ (by simp only; omega)
           repeat' ((conv => whnf); first
           | refine Ya ?_ | refine Yb ?_ | refine Yc ?_ | refine Yd ?_ | refine Ye ?_ | refine Yf ?_ | refine Yg ?_ | refine Yh ?_ | refine Yi rfl ?_ | refine Yj rfl ?_ | refine Yk rfl ?_ | refine Yl rfl ?_
            | (refine Need.mk ⟨rfl, by simp⟩ ?_)
            | (apply CallI.of; assumption)
            | (refine Rnd.enter g.lim ?_)
            | (refine Bounds.at 0 (a.length + 1) (by omega) (by omega) (by omega) ?_ <;> (try dsimp only) <;> (rw [win_head]))
            | (refine Bounds.at (a.length + 1) (a ++ 10 :: r).length (by omega) (by omega) (by omega) ?_ <;> (try dsimp only) <;> (rw [win_tail]))
            | (refine Cmp.ff hs ?_)
            | (refine Cmp.tt hcn ?_)
            | (refine CallI.of (s_mwhen g _ _) ?_)
            | (refine CallI.of (s_mfirst2 g _ _) ?_)
            | (refine Pick.now rfl ?_)
            | (refine LoopW.to ih rfl rfl)
            | (refine Cmp.tt (by simp only [List.length_cons, List.length_nil]; omega) ?_) | (refine Cmp.ff (by simp only [List.length_cons, List.length_nil]; omega) ?_)
            | (exfalso; omega))
          ·rw [if_pos (by simpa using hcn)] at i4
           rw [← i4]
           repeat' ((conv => whnf); first
           | refine Ya ?_ | refine Yb ?_ | refine Yc ?_ | refine Yd ?_ | refine Ye ?_ | refine Yf ?_ | refine Yg ?_ | refine Yh ?_ | refine Yi rfl ?_ | refine Yj rfl ?_ | refine Yk rfl ?_ | refine Yl rfl ?_
            | (refine Need.mk ⟨rfl, by simp⟩ ?_)
            | (apply CallI.of; assumption)
            | (refine Rnd.enter g.lim ?_)
            | (refine Bounds.at 0 (a.length + 1) (by omega) (by omega) (by omega) ?_ <;> (try dsimp only) <;> (rw [win_head]))
            | (refine Bounds.at (a.length + 1) (a ++ 10 :: r).length (by omega) (by omega) (by omega) ?_ <;> (try dsimp only) <;> (rw [win_tail]))
            | (refine Cmp.ff hs ?_)
            | (refine Cmp.ff hcn ?_)
            | (refine CallI.of (s_mwhen g _ _) ?_)
            | (refine CallI.of (s_mfirst2 g _ _) ?_)
            | (refine Pick.now rfl ?_)
            | (refine Ret.mk rfl)
            | (refine Cmp.tt (by simp only [List.length_cons, List.length_nil]; omega) ?_) | (refine Cmp.ff (by simp only [List.length_cons, List.length_nil]; omega) ?_)
            | (exfalso; omega))
        ·rw [parseG_bad hpa hwr] at i4
         rw [← i4]
         obtain ⟨y, hy⟩ := list_last (ENDW) wr
         have hnum := s_number g y 2 (by omega)
         have hpk : ((ENDW :: wr).map D.str)[(((ENDW :: wr).length : Int) - 1).toNat * 1]? = some (.str y) := by
          rw [show (((ENDW :: wr).length : Int) - 1).toNat * 1 = wr.length by simp only [List.length_cons]; omega, List.getElem?_map, hy]; rfl
         have hl2 : ¬ (((ENDW :: wr).length : Int) = 2) := by simp only [List.length_cons]; omega
         have hl3 : (ENDW :: wr).length = wr.length + 1 := rfl
         have hl4 : (ENDW :: wr).length ≤ a.length + 1 := by rw [← hpa]; exact parts_len 32 a
         repeat' ((conv => whnf); first
         | refine Ya ?_ | refine Yb ?_ | refine Yc ?_ | refine Yd ?_ | refine Ye ?_ | refine Yf ?_ | refine Yg ?_ | refine Yh ?_ | refine Yi rfl ?_ | refine Yj rfl ?_ | refine Yk rfl ?_ | refine Yl rfl ?_
          | (refine Need.mk ⟨rfl, by simp⟩ ?_)
          | (apply CallI.of; assumption)
          | (refine Rnd.enter g.lim ?_)
          | (refine Bounds.at 0 (a.length + 1) (by omega) (by omega) (by omega) ?_ <;> (try dsimp only) <;> (rw [win_head]))
          | (refine Bounds.at (a.length + 1) (a ++ 10 :: r).length (by omega) (by omega) (by omega) ?_ <;> (try dsimp only) <;> (rw [win_tail]))
          | (refine Cmp.ff hs ?_)
          | (refine Cmp.ff hl2 ?_)
          | (refine CallI.of (s_mwhen g _ _) ?_)
          | (refine CallI.of (s_mfirst2 g _ _) ?_)
          | (refine Pick.now hpk ?_)
          | (refine Pick.now rfl ?_)
          | (refine Cmp.mk (fun h => ?_) (fun h => ?_)) | (refine Rem.any (by omega) (fun r hr he => ?_)) | (refine Br.mk (fun h => ?_) (fun h => ?_))
          | (refine Ret.mk rfl))
       ·rw [parseG_line hpa h0] at i4
        obtain ⟨j, hpl⟩ := s_lineP g a (by omega)
        generalize lineP a = q at *
        obtain ⟨x, e⟩ := q
        simp only at hpl i4
        by_cases he : e = 0
        ·subst he
         rw [if_neg (by simp)] at i4
         by_cases h64 : 64 ≤ ls.length
         ·rw [if_pos h64] at i4
          rw [← i4]
          repeat' ((conv => whnf); first
          | refine Ya ?_ | refine Yb ?_ | refine Yc ?_ | refine Yd ?_ | refine Ye ?_ | refine Yf ?_ | refine Yg ?_ | refine Yh ?_ | refine Yi rfl ?_ | refine Yj rfl ?_ | refine Yk rfl ?_ | refine Yl rfl ?_
           | (refine Need.mk ⟨rfl, by simp⟩ ?_)
           | (apply CallI.of; assumption)
           | (refine Rnd.enter g.lim ?_)
           | (refine Bounds.at 0 (a.length + 1) (by omega) (by omega) (by omega) ?_ <;> (try dsimp only) <;> (rw [win_head]))
           | (refine Bounds.at (a.length + 1) (a ++ 10 :: r).length (by omega) (by omega) (by omega) ?_ <;> (try dsimp only) <;> (rw [win_tail]))
           | (refine Cmp.ff hs ?_)
           | (refine Cmp.ff h0 ?_)
           | (refine CallI.of (s_mwhen g _ _) ?_)
           | (refine CallI.of (s_mfirst2 g _ _) ?_)
           | (refine Pick.now rfl ?_)
           | (refine Ret.mk rfl))
         ·rw [if_neg h64] at i4
          have ih := ih ⟨⟨ki, ai, se, da, ls ++ [x]⟩, i + 1, r, false⟩ ⟨by simp; omega, by simp only; omega, by simp only; omega, i4⟩ (by simp only; omega)
          have e1 : (ls ++ [x]).length = ls.length + 1 := by simp
          have e2 : (ls ++ [x]).flatMap Lnt.cells = ls.flatMap Lnt.cells ++ x.cells := by simp
          dsimp only at ih
          rw [e1, e2] at ih
          have hfl := flatR_length Lnt.cells 14 Lnt.cells_length ls
          repeat' ((conv => whnf); first
          | refine Ya ?_ | refine Yb ?_ | refine Yc ?_ | refine Yd ?_ | refine Ye ?_ | refine Yf ?_ | refine Yg ?_ | refine Yh ?_ | refine Yi rfl ?_ | refine Yj rfl ?_ | refine Yk rfl ?_ | refine Yl rfl ?_
           | (refine Need.mk ⟨rfl, by simp⟩ ?_)
           | (apply CallI.of; assumption)
           | (refine Rnd.enter g.lim ?_)
           | (refine Bounds.at 0 (a.length + 1) (by omega) (by omega) (by omega) ?_ <;> (try dsimp only) <;> (rw [win_head]))
           | (refine Bounds.at (a.length + 1) (a ++ 10 :: r).length (by omega) (by omega) (by omega) ?_ <;> (try dsimp only) <;> (rw [win_tail]))
           | (refine Cmp.ff hs ?_)
           | (refine Cmp.ff h0 ?_)
           | (refine CallI.of (s_mwhen g _ _) ?_)
           | (refine CallI.of (s_mfirst2 g _ _) ?_)
           | (refine Pick.now rfl ?_)
           | (refine Need.mk (by simp; omega) ?_)
           | (refine LoopW.to ih rfl rfl))
        ·rw [if_pos he] at i4
         rw [← i4]
         have hne : ∀ z, firstI [e, z] = e := fun z => by simp [firstI, he]
         have hfst : ∀ z, Fc E n_message_first [.d (.list 2 [DI e, DI z])] (I e) := fun z => by
          have := s_mfirst2 g e z
          rw [hne] at this
          exact this
         repeat' ((conv => whnf); first
         | refine Ya ?_ | refine Yb ?_ | refine Yc ?_ | refine Yd ?_ | refine Ye ?_ | refine Yf ?_ | refine Yg ?_ | refine Yh ?_ | refine Yi rfl ?_ | refine Yj rfl ?_ | refine Yk rfl ?_ | refine Yl rfl ?_
          | (refine Need.mk ⟨rfl, by simp⟩ ?_)
          | (apply CallI.of; assumption)
          | (refine Rnd.enter g.lim ?_)
          | (refine Bounds.at 0 (a.length + 1) (by omega) (by omega) (by omega) ?_ <;> (try dsimp only) <;> (rw [win_head]))
          | (refine Bounds.at (a.length + 1) (a ++ 10 :: r).length (by omega) (by omega) (by omega) ?_ <;> (try dsimp only) <;> (rw [win_tail]))
          | (refine Cmp.ff hs ?_)
          | (refine Cmp.ff h0 ?_)
          | (refine CallI.of (s_mwhen g _ _) ?_)
          | (refine CallI.of (hfst _) ?_)
          | (refine Pick.now rfl ?_)
          | (refine Cmp.ff he ?_)
          | (refine Cmp.mk (fun h => ?_) (fun h => ?_)) | (refine Rem.any (by omega) (fun r hr he => ?_)) | (refine Br.mk (fun h => ?_) (fun h => ?_))
          | (refine Ret.mk rfl))
     ·rw [if_pos rfl, parseO, if_pos hs] at i4
      rw [← i4]
      repeat' ((conv => whnf); first
      | refine Ya ?_ | refine Yb ?_ | refine Yc ?_ | refine Yd ?_ | refine Ye ?_ | refine Yf ?_ | refine Yg ?_ | refine Yh ?_ | refine Yi rfl ?_ | refine Yj rfl ?_ | refine Yk rfl ?_ | refine Yl rfl ?_
       | (refine Need.mk ⟨rfl, by simp⟩ ?_)
       | (apply CallI.of; assumption)
       | (refine Rnd.enter g.lim ?_)
       | (refine Bounds.at 0 (a.length + 1) (by omega) (by omega) (by omega) ?_ <;> (try dsimp only) <;> (rw [win_head]))
       | (refine Bounds.at (a.length + 1) (a ++ 10 :: r).length (by omega) (by omega) (by omega) ?_ <;> (try dsimp only) <;> (rw [win_tail]))
       | (refine Cmp.ff hs ?_)
       | (refine Ret.mk rfl))
  ·intro main
   refine LoopW.step g.lim ?_
   by_cases hs : s0 = []
   ·subst hs
    have hp : parseM [] = (zeroM, 0, 28) := rfl
    rw [hp]
    repeat' ((conv => whnf); first
    | refine Ya ?_ | refine Yb ?_ | refine Yc ?_ | refine Yd ?_ | refine Ye ?_ | refine Yf ?_ | refine Yg ?_ | refine Yh ?_ | refine Yi rfl ?_ | refine Yj rfl ?_ | refine Yk rfl ?_ | refine Yl rfl ?_
     | (refine Need.mk ⟨rfl, by simp⟩ ?_)
     | (refine Ret.mk rfl))
   ·rcases pcs_cases s0 hs with ⟨hn, hp⟩ | ⟨a, r, hn, rfl, hp⟩
    ·have hw : wholeB s0 = false := decide_eq_false fun e => by
      obtain ⟨t, e⟩ := List.getLast?_eq_some_iff.1 e
      exact hn (by rw [e]; simp)
     have he : endW s0 = s0 := by unfold endW; rw [hw]; rfl
     have hh := headP_nw hw
     have hv : parseM s0 = (zeroM, 0, 25) := by
      unfold parseM
      rw [if_neg hl0, hp]
      simp only [hh]
     rw [hv]
     have hx := s_IndexLF g s0
     rw [indexByte_no s0 hn] at hx
     have hcut := s_CutLF g s0 (by omega)
     rw [hw, he] at hcut
     have hsp := s_Split g s0 (by omega)
     have hpos : s0.length ≠ 0 := fun e => hs (List.length_eq_zero_iff.1 e)
     repeat' ((conv => whnf); first
     | refine Ya ?_ | refine Yb ?_ | refine Yc ?_ | refine Yd ?_ | refine Ye ?_ | refine Yf ?_ | refine Yg ?_ | refine Yh ?_ | refine Yi rfl ?_ | refine Yj rfl ?_ | refine Yk rfl ?_ | refine Yl rfl ?_
      | (refine Need.mk ⟨rfl, by simp⟩ ?_)
      | (apply CallI.of; assumption)
      | (refine Rnd.enter g.lim ?_)
      | (refine Bounds.at 0 s0.length (by omega) (by omega) (by omega) ?_ <;> (try dsimp only) <;> (rw [win_all]))
      | (refine Cmp.ff hs ?_)
      | (refine CallS.head_none g hs0 hh rfl (fun h => ?_))
      | (refine Ret.mk rfl))
    ·have hlen : (a ++ 10 :: r).length = a.length + (r.length + 1) := by simp
     have hx := s_IndexLF g (a ++ 10 :: r)
     rw [indexByte_lf a r hn] at hx
     have hpl : (a ++ [10]).length ≤ 1000000 := by simp; omega
     have hcut := s_CutLF g (a ++ [10]) hpl
     rw [(whole_lf _).1, (whole_lf _).2] at hcut
     have hsp := s_Split g a (by omega)
     cases hh : headP (a ++ [10]) with
     | none =>
      have hv : parseM (a ++ 10 :: r) = (zeroM, 0, 25) := by
       unfold parseM
       rw [if_neg hl0, hp]
       simp only [hh]
      rw [hv]
      repeat' ((conv => whnf); first
      | refine Ya ?_ | refine Yb ?_ | refine Yc ?_ | refine Yd ?_ | refine Ye ?_ | refine Yf ?_ | refine Yg ?_ | refine Yh ?_ | refine Yi rfl ?_ | refine Yj rfl ?_ | refine Yk rfl ?_ | refine Yl rfl ?_
       | (refine Need.mk ⟨rfl, by simp⟩ ?_)
       | (apply CallI.of; assumption)
       | (refine Rnd.enter g.lim ?_)
       | (refine Bounds.at 0 (a.length + 1) (by omega) (by omega) (by omega) ?_ <;> (try dsimp only) <;> (rw [win_head]))
       | (refine Bounds.at (a.length + 1) (a ++ 10 :: r).length (by omega) (by omega) (by omega) ?_ <;> (try dsimp only) <;> (rw [win_tail]))
       | (refine Cmp.ff hs ?_)
       | (refine CallS.head_none g hpl hh rfl (fun h => ?_))
       | (refine Ret.mk rfl))
     | some h =>
      have hls := (headP_strict hh).1
      obtain ⟨ki, ai, se, da, ls⟩ := h
      simp only at hls
      subst hls
      have hv : parseM (a ++ 10 :: r) = parseG ⟨ki, ai, se, da, []⟩ 1 (pcs r) := by
       unfold parseM
       rw [if_neg hl0, hp]
       simp only [hh]
      have ih := main ⟨⟨ki, ai, se, da, []⟩, 1, r, false⟩ ⟨by simp, by simp, by simp only; omega, by rw [hv]; rfl⟩
      repeat' ((conv => whnf); first
      | refine Ya ?_ | refine Yb ?_ | refine Yc ?_ | refine Yd ?_ | refine Ye ?_ | refine Yf ?_ | refine Yg ?_ | refine Yh ?_ | refine Yi rfl ?_ | refine Yj rfl ?_ | refine Yk rfl ?_ | refine Yl rfl ?_
       | (refine Need.mk ⟨rfl, by simp⟩ ?_)
       | (apply CallI.of; assumption)
       | (refine Rnd.enter g.lim ?_)
       | (refine Bounds.at 0 (a.length + 1) (by omega) (by omega) (by omega) ?_ <;> (try dsimp only) <;> (rw [win_head]))
       | (refine Bounds.at (a.length + 1) (a ++ 10 :: r).length (by omega) (by omega) (by omega) ?_ <;> (try dsimp only) <;> (rw [win_tail]))
       | (refine Cmp.ff hs ?_)
       | (refine CallS.head_some g hpl hh rfl ?_)
       | (refine LoopW.to ih rfl rfl))
end
end Go.Proofs.YtlnlcdnpgjhaaabGreatDoor.Co
/-
 Messages: how the program prints a line, field by field.
-/
namespace Go.Proofs.YtlnlcdnpgjhaaabGreatDoor.Co
open Go Go.Evl
abbrev envP (k : Nat) (i : Int) : Env := [(1, .ptr ⟨0, 1, 0⟩ 0 0), (3, .ref ⟨0, 3, 0⟩ 0 k k), (6, .agg (fldV 0 6)), (7, I i)]
abbrev memP (l : Lnt) (k : Nat) (xs : List D) : Mem := (⟨0, 1, 0⟩, .cells ty_message_Line [.d (.str l.ac), .d (.str l.rq.nm), .d (.str l.rq.ca), .d (.str l.rq.ki), .d (.str l.rq.te), .d (.str l.rq.pa), .d (.str l.rq.li), I l.rq.fr, I l.rq.to, I l.rq.da, I l.rq.mi, I l.rq.se, I l.rq.si, I l.rq.no]) :: (⟨0, 3, 0⟩, .row false ty_string 1 k xs) :: fldM 0 6
abbrev keepP : List Evl.Id := [⟨0, 1, 0⟩, ⟨0, 3, 0⟩, ⟨0, 6, 0⟩, ⟨0, 6, 1⟩, ⟨0, 6, 2⟩, ⟨0, 6, 3⟩, ⟨0, 6, 4⟩, ⟨0, 6, 5⟩, ⟨0, 6, 6⟩, ⟨0, 6, 7⟩, ⟨0, 6, 8⟩, ⟨0, 6, 9⟩, ⟨0, 6, 10⟩, ⟨0, 6, 11⟩, ⟨0, 6, 12⟩, ⟨0, 6, 13⟩, ⟨0, 6, 14⟩, ⟨0, 6, 15⟩, ⟨0, 6, 16⟩, ⟨0, 6, 17⟩, ⟨0, 6, 18⟩, ⟨0, 6, 19⟩, ⟨0, 6, 20⟩, ⟨0, 6, 21⟩]
section
variable {E : Oracle} (g : Good E)
include g
set_option maxRecDepth 100000
set_option maxHeartbeats 8000000 in
theorem rnd_P0 (l : Lnt) (xs : List D)  {K : Ex → Env → Mem → Prop} (ih : LoopW E ⟨0, 1⟩ [1, 3, 6, 7] keepP b_message_printLine_1 (envP 1 1) (memP l 1 (xs ++ [.str l.ac])) K) : LoopW E ⟨0, 1⟩ [1, 3, 6, 7] keepP b_message_printLine_1 (envP 0 0) (memP l 0 xs) K := by
 refine LoopW.step g.lim ?_
 repeat' ((conv => whnf); first
 | refine Ya ?_ | refine Yb ?_ | refine Yc ?_ | refine Yd ?_ | refine Ye ?_ | refine Yf ?_ | refine Yg ?_ | refine Yh ?_ | refine Yi rfl ?_ | refine Yj rfl ?_ | refine Yk rfl ?_ | refine Yl rfl ?_
  | (refine In.enter g.lim rfl code_message_text_1 ?_)
  | (refine In.enter g.lim rfl code_message_fields_1 ?_)
  | (refine Some'.ptr (by decide) ?_)
  | (refine Need.mk ⟨rfl, by decide⟩ ?_)
  | (refine LoopW.to ih rfl rfl))
set_option maxHeartbeats 8000000 in
theorem rnd_P1 (l : Lnt) (xs : List D)  {K : Ex → Env → Mem → Prop} (ih : LoopW E ⟨0, 1⟩ [1, 3, 6, 7] keepP b_message_printLine_1 (envP 2 2) (memP l 2 (xs ++ [.str l.rq.ca])) K) : LoopW E ⟨0, 1⟩ [1, 3, 6, 7] keepP b_message_printLine_1 (envP 1 1) (memP l 1 xs) K := by
 refine LoopW.step g.lim ?_
 repeat' ((conv => whnf); first
 | refine Ya ?_ | refine Yb ?_ | refine Yc ?_ | refine Yd ?_ | refine Ye ?_ | refine Yf ?_ | refine Yg ?_ | refine Yh ?_ | refine Yi rfl ?_ | refine Yj rfl ?_ | refine Yk rfl ?_ | refine Yl rfl ?_
  | (refine In.enter g.lim rfl code_message_text_1 ?_)
  | (refine In.enter g.lim rfl code_message_fields_2 ?_)
  | (refine Some'.ptr (by decide) ?_)
  | (refine Need.mk ⟨rfl, by decide⟩ ?_)
  | (refine LoopW.to ih rfl rfl))
set_option maxHeartbeats 8000000 in
theorem rnd_P2 (l : Lnt) (xs : List D)  {K : Ex → Env → Mem → Prop} (ih : LoopW E ⟨0, 1⟩ [1, 3, 6, 7] keepP b_message_printLine_1 (envP 3 3) (memP l 3 (xs ++ [.str l.rq.nm])) K) : LoopW E ⟨0, 1⟩ [1, 3, 6, 7] keepP b_message_printLine_1 (envP 2 2) (memP l 2 xs) K := by
 refine LoopW.step g.lim ?_
 repeat' ((conv => whnf); first
 | refine Ya ?_ | refine Yb ?_ | refine Yc ?_ | refine Yd ?_ | refine Ye ?_ | refine Yf ?_ | refine Yg ?_ | refine Yh ?_ | refine Yi rfl ?_ | refine Yj rfl ?_ | refine Yk rfl ?_ | refine Yl rfl ?_
  | (refine In.enter g.lim rfl code_message_text_1 ?_)
  | (refine In.enter g.lim rfl code_message_fields_3 ?_)
  | (refine Some'.ptr (by decide) ?_)
  | (refine Need.mk ⟨rfl, by decide⟩ ?_)
  | (refine LoopW.to ih rfl rfl))
set_option maxHeartbeats 8000000 in
theorem rnd_P3 (l : Lnt) (xs : List D)  {K : Ex → Env → Mem → Prop} (ih : LoopW E ⟨0, 1⟩ [1, 3, 6, 7] keepP b_message_printLine_1 (envP 4 4) (memP l 4 (xs ++ [.str l.rq.ki])) K) : LoopW E ⟨0, 1⟩ [1, 3, 6, 7] keepP b_message_printLine_1 (envP 3 3) (memP l 3 xs) K := by
 refine LoopW.step g.lim ?_
 repeat' ((conv => whnf); first
 | refine Ya ?_ | refine Yb ?_ | refine Yc ?_ | refine Yd ?_ | refine Ye ?_ | refine Yf ?_ | refine Yg ?_ | refine Yh ?_ | refine Yi rfl ?_ | refine Yj rfl ?_ | refine Yk rfl ?_ | refine Yl rfl ?_
  | (refine In.enter g.lim rfl code_message_text_1 ?_)
  | (refine In.enter g.lim rfl code_message_fields_4 ?_)
  | (refine Some'.ptr (by decide) ?_)
  | (refine Need.mk ⟨rfl, by decide⟩ ?_)
  | (refine LoopW.to ih rfl rfl))
set_option maxHeartbeats 8000000 in
theorem rnd_P4 (l : Lnt) (xs : List D)  {K : Ex → Env → Mem → Prop} (ih : LoopW E ⟨0, 1⟩ [1, 3, 6, 7] keepP b_message_printLine_1 (envP 5 5) (memP l 5 (xs ++ [.str l.rq.pa])) K) : LoopW E ⟨0, 1⟩ [1, 3, 6, 7] keepP b_message_printLine_1 (envP 4 4) (memP l 4 xs) K := by
 refine LoopW.step g.lim ?_
 repeat' ((conv => whnf); first
 | refine Ya ?_ | refine Yb ?_ | refine Yc ?_ | refine Yd ?_ | refine Ye ?_ | refine Yf ?_ | refine Yg ?_ | refine Yh ?_ | refine Yi rfl ?_ | refine Yj rfl ?_ | refine Yk rfl ?_ | refine Yl rfl ?_
  | (refine In.enter g.lim rfl code_message_text_1 ?_)
  | (refine In.enter g.lim rfl code_message_fields_5 ?_)
  | (refine Some'.ptr (by decide) ?_)
  | (refine Need.mk ⟨rfl, by decide⟩ ?_)
  | (refine LoopW.to ih rfl rfl))
set_option maxHeartbeats 8000000 in
theorem rnd_P5 (l : Lnt) (xs : List D) (hw : Fc E n_message_wide [I l.rq.fr, I 5] (S (wideL 5 l.rq.fr))) {K : Ex → Env → Mem → Prop} (ih : LoopW E ⟨0, 1⟩ [1, 3, 6, 7] keepP b_message_printLine_1 (envP 6 6) (memP l 6 (xs ++ [.str (wideL 5 l.rq.fr)])) K) : LoopW E ⟨0, 1⟩ [1, 3, 6, 7] keepP b_message_printLine_1 (envP 5 5) (memP l 5 xs) K := by
 refine LoopW.step g.lim ?_
 repeat' ((conv => whnf); first
 | refine Ya ?_ | refine Yb ?_ | refine Yc ?_ | refine Yd ?_ | refine Ye ?_ | refine Yf ?_ | refine Yg ?_ | refine Yh ?_ | refine Yi rfl ?_ | refine Yj rfl ?_ | refine Yk rfl ?_ | refine Yl rfl ?_
  | (refine In.enter g.lim rfl code_message_digits_1 ?_)
  | (refine In.enter g.lim rfl code_message_fields_6 ?_)
  | (refine Some'.ptr (by decide) ?_)
  | (refine Need.mk ⟨rfl, by decide⟩ ?_)
  | (refine CallI.of hw ?_)
  | (refine LoopW.to ih rfl rfl))
set_option maxHeartbeats 8000000 in
theorem rnd_P6 (l : Lnt) (xs : List D) (hw : Fc E n_message_wide [I l.rq.to, I 5] (S (wideL 5 l.rq.to))) {K : Ex → Env → Mem → Prop} (ih : LoopW E ⟨0, 1⟩ [1, 3, 6, 7] keepP b_message_printLine_1 (envP 7 7) (memP l 7 (xs ++ [.str (wideL 5 l.rq.to)])) K) : LoopW E ⟨0, 1⟩ [1, 3, 6, 7] keepP b_message_printLine_1 (envP 6 6) (memP l 6 xs) K := by
 refine LoopW.step g.lim ?_
 repeat' ((conv => whnf); first
 | refine Ya ?_ | refine Yb ?_ | refine Yc ?_ | refine Yd ?_ | refine Ye ?_ | refine Yf ?_ | refine Yg ?_ | refine Yh ?_ | refine Yi rfl ?_ | refine Yj rfl ?_ | refine Yk rfl ?_ | refine Yl rfl ?_
  | (refine In.enter g.lim rfl code_message_digits_1 ?_)
  | (refine In.enter g.lim rfl code_message_fields_7 ?_)
  | (refine Some'.ptr (by decide) ?_)
  | (refine Need.mk ⟨rfl, by decide⟩ ?_)
  | (refine CallI.of hw ?_)
  | (refine LoopW.to ih rfl rfl))
set_option maxHeartbeats 8000000 in
theorem rnd_P7 (l : Lnt) (xs : List D) (hw : Fc E n_calendar_PrintMask [I l.rq.da] (.tup [S (maskL l.rq.da.toNat), I 0])) {K : Ex → Env → Mem → Prop} (ih : LoopW E ⟨0, 1⟩ [1, 3, 6, 7] keepP b_message_printLine_1 (envP 8 8) (memP l 8 (xs ++ [.str (maskL l.rq.da.toNat)])) K) : LoopW E ⟨0, 1⟩ [1, 3, 6, 7] keepP b_message_printLine_1 (envP 7 7) (memP l 7 xs) K := by
 refine LoopW.step g.lim ?_
 repeat' ((conv => whnf); first
 | refine Ya ?_ | refine Yb ?_ | refine Yc ?_ | refine Yd ?_ | refine Ye ?_ | refine Yf ?_ | refine Yg ?_ | refine Yh ?_ | refine Yi rfl ?_ | refine Yj rfl ?_ | refine Yk rfl ?_ | refine Yl rfl ?_
  | (refine In.enter g.lim rfl code_message_fields_8 ?_)
  | (refine Some'.ptr (by decide) ?_)
  | (refine Need.mk ⟨rfl, by decide⟩ ?_)
  | (refine CallI.of hw ?_)
  | (refine LoopW.to ih rfl rfl))
set_option maxHeartbeats 8000000 in
theorem rnd_P8 (l : Lnt) (xs : List D) (hw : Fc E n_message_PrintMinute [I l.rq.mi] (.tup [S (minL l.rq.mi), I 0])) {K : Ex → Env → Mem → Prop} (ih : LoopW E ⟨0, 1⟩ [1, 3, 6, 7] keepP b_message_printLine_1 (envP 9 9) (memP l 9 (xs ++ [.str (minL l.rq.mi)])) K) : LoopW E ⟨0, 1⟩ [1, 3, 6, 7] keepP b_message_printLine_1 (envP 8 8) (memP l 8 xs) K := by
 refine LoopW.step g.lim ?_
 repeat' ((conv => whnf); first
 | refine Ya ?_ | refine Yb ?_ | refine Yc ?_ | refine Yd ?_ | refine Ye ?_ | refine Yf ?_ | refine Yg ?_ | refine Yh ?_ | refine Yi rfl ?_ | refine Yj rfl ?_ | refine Yk rfl ?_ | refine Yl rfl ?_
  | (refine In.enter g.lim rfl code_message_fields_10 ?_)
  | (refine Some'.ptr (by decide) ?_)
  | (refine Need.mk ⟨rfl, by decide⟩ ?_)
  | (refine CallI.of hw ?_)
  | (refine LoopW.to ih rfl rfl))
set_option maxHeartbeats 8000000 in
theorem rnd_P9 (l : Lnt) (xs : List D) (hw : Fc E n_message_wide [I l.rq.se, I 3] (S (wideL 3 l.rq.se))) {K : Ex → Env → Mem → Prop} (ih : LoopW E ⟨0, 1⟩ [1, 3, 6, 7] keepP b_message_printLine_1 (envP 10 10) (memP l 10 (xs ++ [.str (wideL 3 l.rq.se)])) K) : LoopW E ⟨0, 1⟩ [1, 3, 6, 7] keepP b_message_printLine_1 (envP 9 9) (memP l 9 xs) K := by
 refine LoopW.step g.lim ?_
 repeat' ((conv => whnf); first
 | refine Ya ?_ | refine Yb ?_ | refine Yc ?_ | refine Yd ?_ | refine Ye ?_ | refine Yf ?_ | refine Yg ?_ | refine Yh ?_ | refine Yi rfl ?_ | refine Yj rfl ?_ | refine Yk rfl ?_ | refine Yl rfl ?_
  | (refine In.enter g.lim rfl code_message_digits_1 ?_)
  | (refine In.enter g.lim rfl code_message_fields_12 ?_)
  | (refine Some'.ptr (by decide) ?_)
  | (refine Need.mk ⟨rfl, by decide⟩ ?_)
  | (refine CallI.of hw ?_)
  | (refine LoopW.to ih rfl rfl))
set_option maxHeartbeats 8000000 in
theorem rnd_P10 (l : Lnt) (xs : List D) (hw : Fc E n_message_wide [I l.rq.si, I 1] (S (wideL 1 l.rq.si))) {K : Ex → Env → Mem → Prop} (ih : LoopW E ⟨0, 1⟩ [1, 3, 6, 7] keepP b_message_printLine_1 (envP 11 11) (memP l 11 (xs ++ [.str (wideL 1 l.rq.si)])) K) : LoopW E ⟨0, 1⟩ [1, 3, 6, 7] keepP b_message_printLine_1 (envP 10 10) (memP l 10 xs) K := by
 refine LoopW.step g.lim ?_
 repeat' ((conv => whnf); first
 | refine Ya ?_ | refine Yb ?_ | refine Yc ?_ | refine Yd ?_ | refine Ye ?_ | refine Yf ?_ | refine Yg ?_ | refine Yh ?_ | refine Yi rfl ?_ | refine Yj rfl ?_ | refine Yk rfl ?_ | refine Yl rfl ?_
  | (refine In.enter g.lim rfl code_message_digits_1 ?_)
  | (refine In.enter g.lim rfl code_message_fields_13 ?_)
  | (refine Some'.ptr (by decide) ?_)
  | (refine Need.mk ⟨rfl, by decide⟩ ?_)
  | (refine CallI.of hw ?_)
  | (refine LoopW.to ih rfl rfl))
set_option maxHeartbeats 8000000 in
theorem rnd_P11 (l : Lnt) (xs : List D) (hw : Fc E n_message_wide [I l.rq.no, I 2] (S (wideL 2 l.rq.no))) {K : Ex → Env → Mem → Prop} (ih : LoopW E ⟨0, 1⟩ [1, 3, 6, 7] keepP b_message_printLine_1 (envP 12 12) (memP l 12 (xs ++ [.str (wideL 2 l.rq.no)])) K) : LoopW E ⟨0, 1⟩ [1, 3, 6, 7] keepP b_message_printLine_1 (envP 11 11) (memP l 11 xs) K := by
 refine LoopW.step g.lim ?_
 repeat' ((conv => whnf); first
 | refine Ya ?_ | refine Yb ?_ | refine Yc ?_ | refine Yd ?_ | refine Ye ?_ | refine Yf ?_ | refine Yg ?_ | refine Yh ?_ | refine Yi rfl ?_ | refine Yj rfl ?_ | refine Yk rfl ?_ | refine Yl rfl ?_
  | (refine In.enter g.lim rfl code_message_digits_1 ?_)
  | (refine In.enter g.lim rfl code_message_fields_14 ?_)
  | (refine Some'.ptr (by decide) ?_)
  | (refine Need.mk ⟨rfl, by decide⟩ ?_)
  | (refine CallI.of hw ?_)
  | (refine LoopW.to ih rfl rfl))
set_option maxHeartbeats 8000000 in
theorem rnd_P12 (l : Lnt) (xs : List D)  {K : Ex → Env → Mem → Prop} (ih : LoopW E ⟨0, 1⟩ [1, 3, 6, 7] keepP b_message_printLine_1 (envP 13 13) (memP l 13 (xs ++ [.str (dashL l.rq.te)])) K) : LoopW E ⟨0, 1⟩ [1, 3, 6, 7] keepP b_message_printLine_1 (envP 12 12) (memP l 12 xs) K := by
 by_cases he : l.rq.te = []
 ·rw [show dashL l.rq.te = [45] from if_pos he] at ih
  refine LoopW.step g.lim ?_
  repeat' ((conv => whnf); first
  | refine Ya ?_ | refine Yb ?_ | refine Yc ?_ | refine Yd ?_ | refine Ye ?_ | refine Yf ?_ | refine Yg ?_ | refine Yh ?_ | refine Yi rfl ?_ | refine Yj rfl ?_ | refine Yk rfl ?_ | refine Yl rfl ?_
   | (refine In.enter g.lim rfl code_message_dashed_1 ?_)
   | (refine In.enter g.lim rfl code_message_fields_15 ?_)
   | (refine Some'.ptr (by decide) ?_)
   | (refine Need.mk ⟨rfl, by decide⟩ ?_)
   | (refine Cmp.tt he ?_)
   | (refine LoopW.to ih rfl rfl))
 ·rw [show dashL l.rq.te = l.rq.te from if_neg he] at ih
  refine LoopW.step g.lim ?_
  repeat' ((conv => whnf); first
  | refine Ya ?_ | refine Yb ?_ | refine Yc ?_ | refine Yd ?_ | refine Ye ?_ | refine Yf ?_ | refine Yg ?_ | refine Yh ?_ | refine Yi rfl ?_ | refine Yj rfl ?_ | refine Yk rfl ?_ | refine Yl rfl ?_
   | (refine In.enter g.lim rfl code_message_dashed_1 ?_)
   | (refine In.enter g.lim rfl code_message_fields_15 ?_)
   | (refine Some'.ptr (by decide) ?_)
   | (refine Need.mk ⟨rfl, by decide⟩ ?_)
   | (refine Cmp.ff he ?_)
   | (refine LoopW.to ih rfl rfl))
set_option maxHeartbeats 8000000 in
theorem rnd_P13 (l : Lnt) (xs : List D)  {K : Ex → Env → Mem → Prop} (ih : LoopW E ⟨0, 1⟩ [1, 3, 6, 7] keepP b_message_printLine_1 (envP 14 14) (memP l 14 (xs ++ [.str (dashL l.rq.li)])) K) : LoopW E ⟨0, 1⟩ [1, 3, 6, 7] keepP b_message_printLine_1 (envP 13 13) (memP l 13 xs) K := by
 by_cases he : l.rq.li = []
 ·rw [show dashL l.rq.li = [45] from if_pos he] at ih
  refine LoopW.step g.lim ?_
  repeat' ((conv => whnf); first
  | refine Ya ?_ | refine Yb ?_ | refine Yc ?_ | refine Yd ?_ | refine Ye ?_ | refine Yf ?_ | refine Yg ?_ | refine Yh ?_ | refine Yi rfl ?_ | refine Yj rfl ?_ | refine Yk rfl ?_ | refine Yl rfl ?_
   | (refine In.enter g.lim rfl code_message_dashed_1 ?_)
   | (refine In.enter g.lim rfl code_message_fields_16 ?_)
   | (refine Some'.ptr (by decide) ?_)
   | (refine Need.mk ⟨rfl, by decide⟩ ?_)
   | (refine Cmp.tt he ?_)
   | (refine LoopW.to ih rfl rfl))
 ·rw [show dashL l.rq.li = l.rq.li from if_neg he] at ih
  refine LoopW.step g.lim ?_
  repeat' ((conv => whnf); first
  | refine Ya ?_ | refine Yb ?_ | refine Yc ?_ | refine Yd ?_ | refine Ye ?_ | refine Yf ?_ | refine Yg ?_ | refine Yh ?_ | refine Yi rfl ?_ | refine Yj rfl ?_ | refine Yk rfl ?_ | refine Yl rfl ?_
   | (refine In.enter g.lim rfl code_message_dashed_1 ?_)
   | (refine In.enter g.lim rfl code_message_fields_16 ?_)
   | (refine Some'.ptr (by decide) ?_)
   | (refine Need.mk ⟨rfl, by decide⟩ ?_)
   | (refine Cmp.ff he ?_)
   | (refine LoopW.to ih rfl rfl))
set_option maxHeartbeats 8000000 in
theorem s_printLine (l : Lnt) (h : chkLn l = 0) : Fc E n_message_printLine [Lnv l] (S (lineL l)) := by
 refine g.fn code_message_printLine rfl ?_
 obtain ⟨ha, hq⟩ := chkLn_ok h
 obtain ⟨p1, p2, p3, p4, p5, p6⟩ := hq.per
 obtain ⟨m1, m2⟩ := hq.mi
 obtain ⟨s1, s2⟩ := hq.se
 obtain ⟨z1, z2⟩ := hq.si
 obtain ⟨o1, o2⟩ := hq.no
 have w1 := s_wide g l.rq.fr 5 (by omega) (by omega)
 have w2 := s_wide g l.rq.to 5 (by omega) (by omega)
 have w3 := s_wide g l.rq.se 3 (by omega) (by omega)
 have w4 := s_wide g l.rq.si 1 (by omega) (by omega)
 have w5 := s_wide g l.rq.no 2 (by omega) (by omega)
 have mk := s_PrintMask_ok g l.rq.da.toNat (by omega)
 rw [Int.toNat_of_nonneg (by omega)] at mk
 have mi := s_PrintMinute g l.rq.mi
 rw [rng_zero.2 ⟨m1, m2⟩, if_pos rfl] at mi
 have hj := s_Join g (wordsL l) (by simp [wordsL]) (by simp [wordsL]) (Nat.le_trans (lineL_len ha hq) (by decide))
 repeat' ((conv => whnf); first
 | refine Ya ?_ | refine Yb ?_ | refine Yc ?_ | refine Yd ?_ | refine Ye ?_ | refine Yf ?_ | refine Yg ?_ | refine Yh ?_ | refine Yi rfl ?_ | refine Yj rfl ?_ | refine Yk rfl ?_ | refine Yl rfl ?_
  | (refine CallS.fields g rfl ?_))
 refine LoopW.to (e1 := envP 0 0) (m1 := memP l 0 []) ?_ rfl rfl
 refine rnd_P0 g l _ ?_
 refine rnd_P1 g l _ ?_
 refine rnd_P2 g l _ ?_
 refine rnd_P3 g l _ ?_
 refine rnd_P4 g l _ ?_
 refine rnd_P5 g l _ w1 ?_
 refine rnd_P6 g l _ w2 ?_
 refine rnd_P7 g l _ mk ?_
 refine rnd_P8 g l _ mi ?_
 refine rnd_P9 g l _ w3 ?_
 refine rnd_P10 g l _ w4 ?_
 refine rnd_P11 g l _ w5 ?_
 refine rnd_P12 g l _ ?_
 refine rnd_P13 g l _ ?_
 refine LoopW.step g.lim ?_
 repeat' ((conv => whnf); first
 | refine Ya ?_ | refine Yb ?_ | refine Yc ?_ | refine Yd ?_ | refine Ye ?_ | refine Yf ?_ | refine Yg ?_ | refine Yh ?_ | refine Yi rfl ?_ | refine Yj rfl ?_ | refine Yk rfl ?_ | refine Yl rfl ?_
  | (refine CallI.of hj ?_)
  | (refine Ret.mk rfl))
end
end Go.Proofs.YtlnlcdnpgjhaaabGreatDoor.Co
/-
 Messages: PrintMessage, by the program and by the reference.
-/
namespace Go.Proofs.YtlnlcdnpgjhaaabGreatDoor.Co
open Go Go.Evl
def txtK (m : Mst) (k : Nat) : List UInt8 := (headT m ++ [10]) ++ linesL (m.ls.take k)
theorem txtK_zero (m : Mst) : txtK m 0 = headT m ++ [10] := by simp [txtK, linesL]
theorem txtK_succ (m : Mst) {k : Nat} (h : k < m.ls.length) : txtK m (k + 1) = txtK m k ++ (lineL m.ls[k] ++ [10]) := by
 unfold txtK
 rw [List.take_add_one, List.getElem?_eq_getElem h, Option.toList_some, linesL_snoc]
 simp only [List.append_assoc]
theorem txtK_end (m : Mst) : msgL m = txtK m m.ls.length ++ (endT m.ls.length ++ [10]) := by
 unfold txtK msgL
 rw [List.take_length]
 simp
theorem txtK_len {m : Mst} (h : OkMs m) (k : Nat) : 1 ≤ (txtK m k).length ∧ (txtK m k).length ≤ 20000 := by
 have h1 := headT_len h
 have h2 := linesL_len (m.ls.take k) fun x hx => (chkLs_zero _ _ _ h.ok).2 x (List.mem_of_mem_take hx)
 have h3 : (m.ls.take k).length ≤ 64 := by rw [List.length_take]; have := h.ln; omega
 simp only [txtK, List.length_append, List.length_cons, List.length_nil]
 omega
theorem byD_app (a b : List UInt8) : byD (a ++ b) = byD a ++ byD b := by simp [byD]
theorem byD_len (a : List UInt8) : (byD a).length = a.length := by simp [byD]
theorem bytesD_eq (a : List UInt8) : Evl.bytesD a = byD a := rfl
theorem stringX_row {bt et t n : Nat} {m : Mem} {o r : Evl.Id} {p : V} {xs : List D} {b : List UInt8} (h1 : Evl.look m o = some (.cells bt [p, .ref r 0 n n])) (h2 : Evl.look m r = some (.row false et 1 n xs)) (hn : n ≠ 0) (hb : Evl.bytesOf xs = some b) : stringX bt et [.ptr o 0 t] m = some (.d (.str b), Evl.upd m r .gone) := by
 simp only [stringX, h1, h2, hb]
 simp [hn]
section
variable {E : Oracle} (g : Good E)
include g
set_option maxRecDepth 100000
set_option maxHeartbeats 8000000 in
theorem s_PrintMessage (m : Mst) (hl : m.ls.length ≤ 1000000) : Fc E n_message_PrintMessage [Msv m] (.tup [S (if chkMs m = 0 then msgL m else []), I (chkMs m)]) := by
 refine g.fn code_message_PrintMessage rfl ?_
 have h1 := s_CheckMessage g m hl
 by_cases hc : chkMs m = 0
 ·rw [if_pos hc, hc]
  rw [hc] at h1
  have ok := chkMs_ok.1 hc
  obtain ⟨_, _, hai, _, hse, hd1, hd2⟩ := head_parts ok.hd
  have hki := (vis_msg ok.ki).2
  have hw5 := s_wide g m.da 5 (by omega) ⟨hd1, by omega⟩
  have hwl := wideL_length 5 m.da
  have hw2 := s_wide g (m.ls.length : Int) 2 (by omega) ⟨by omega, by have := ok.ln; omega⟩
  have hwm := wideL_length 2 (m.ls.length : Int)
  have hln := ok.ln
  have hok := (chkLs_zero _ _ _ ok.ok).2
  have e0 : txtK m 0 = [83, 76, 79, 84, 83, 32] ++ m.ki ++ [32] ++ m.ai ++ [32] ++ m.se ++ [32] ++ wideL 5 m.da ++ [10] := by
   rw [txtK_zero]
   simp [headT, joined]
  repeat' ((conv => whnf); first
  | refine Ya ?_ | refine Yb ?_ | refine Yc ?_ | refine Yd ?_ | refine Ye ?_ | refine Yf ?_ | refine Yg ?_ | refine Yh ?_ | refine Yi rfl ?_ | refine Yj rfl ?_ | refine Yk rfl ?_ | refine Yl rfl ?_
   | (apply CallI.of; assumption)
   | (refine Need.mk (by simp only [maxStr, List.length_append, List.length_cons, List.length_nil]; omega) ?_)
   | (refine Need.mk (by simp [Evl.bytesD] <;> omega) ?_)
   | (refine In.enter g.lim rfl code_strings_Builder_WriteString ?_)
   | (refine In.extern g.lim (x := copyX ty_strings_Builder) rfl rfl ?_)
   | (refine Some'.mk ⟨_, rfl, ?_⟩))
  refine LoopW.to (LoopW.up g (fun k => [(1, .ptr ⟨0, 1, 0⟩ 0 0), (5, .ptr ⟨0, 5, 1⟩ 0 0), (6, .fn n_strings_Builder_WriteString [.ptr ⟨0, 5, 1⟩ 0 0] []), (35, LL m.ls), (36, I m.ls.length), (37, I k)]) (fun k => [(⟨0, 1, 0⟩, .cells ty_message_Message [S m.ki, S m.ai, S m.se, I m.da, LL m.ls]), (⟨0, 5, 0⟩, .row false ty_uint8 1 (txtK m k).length (byD (txtK m k))), (⟨0, 5, 1⟩, .cells ty_strings_Builder [.ptr ⟨0, 5, 1⟩ 0 0, .ref ⟨0, 5, 0⟩ 0 (txtK m k).length (txtK m k).length])]) m.ls.length (fun k hk ih => ?_) 0 (Nat.zero_le _)) rfl ?_
  ·have hk1 := txtK_len ok k
   have hbl := byD_len (txtK m k)
   by_cases hlt : k < m.ls.length
   ·have hp := s_printLine g m.ls[k] (hok _ (List.getElem_mem hlt))
    have hpl := line_len (hok _ (List.getElem_mem hlt))
    have hs := txtK_succ m hlt
    repeat' ((conv => whnf); first
    | refine Ya ?_ | refine Yb ?_ | refine Yc ?_ | refine Yd ?_ | refine Ye ?_ | refine Yf ?_ | refine Yg ?_ | refine Yh ?_ | refine Yi rfl ?_ | refine Yj rfl ?_ | refine Yk rfl ?_ | refine Yl rfl ?_
     | (refine PickW.rec Lnt.cells_length k rfl hlt ?_)
     | (refine CallI.of hp ?_)
     | (refine Need.mk (by simp only [maxStr, List.length_append, List.length_cons, List.length_nil]; omega) ?_)
     | (refine Need.mk (by simp [Evl.bytesD] <;> omega) ?_)
     | (refine In.enter g.lim rfl code_strings_Builder_WriteString ?_)
     | (refine In.extern g.lim (x := copyX ty_strings_Builder) rfl rfl ?_)
     | (refine Some'.mk ⟨_, rfl, ?_⟩)
     | (refine LoopW.to (ih hlt) rfl ?_))
    rw [hs, byD_app, List.length_append]
    rfl
   ·obtain rfl : k = m.ls.length := by omega
    have hb : Evl.bytesOf (byD (txtK m m.ls.length) ++ Evl.bytesD ([69, 78, 68, 32] ++ wideL 2 (m.ls.length : Int) ++ [10])) = some (msgL m) := by
     rw [bytesD_eq, ← byD_app, bytesOf_byD, txtK_end]
     simp [endT, joined]
    repeat' ((conv => whnf); first
    | refine Ya ?_ | refine Yb ?_ | refine Yc ?_ | refine Yd ?_ | refine Ye ?_ | refine Yf ?_ | refine Yg ?_ | refine Yh ?_ | refine Yi rfl ?_ | refine Yj rfl ?_ | refine Yk rfl ?_ | refine Yl rfl ?_
     | (apply CallI.of; assumption)
     | (refine Need.mk (by simp only [maxStr, List.length_append, List.length_cons, List.length_nil]; omega) ?_)
     | (refine Need.mk (by simp [Evl.bytesD] <;> omega) ?_)
     | (refine In.enter g.lim rfl code_strings_Builder_WriteString ?_)
     | (refine In.extern g.lim (x := copyX ty_strings_Builder) rfl rfl ?_)
     | (refine In.extern g.lim (x := stringX ty_strings_Builder ty_uint8) rfl (stringX_row rfl rfl (by omega) hb) ?_)
     | (refine Some'.mk ⟨_, rfl, ?_⟩)
     | (refine Ret.mk rfl))
  ·rw [e0]
   simp only [Nat.zero_add, List.nil_append]
   rfl
 ·rw [if_neg hc]
  repeat' ((conv => whnf); first
  | refine Ya ?_ | refine Yb ?_ | refine Yc ?_ | refine Yd ?_ | refine Ye ?_ | refine Yf ?_ | refine Yg ?_ | refine Yh ?_ | refine Yi rfl ?_ | refine Yj rfl ?_ | refine Yk rfl ?_ | refine Yl rfl ?_
   | (apply CallI.of; assumption)
   | (refine Cmp.ff hc ?_)
   | (refine Ret.mk rfl))
end
end Go.Proofs.YtlnlcdnpgjhaaabGreatDoor.Co
/-
 The changes between requests, sent behind the requests: the plain law.
-/
namespace Go.Proofs.YtlnlcdnpgjhaaabGreatDoor.Co
open Go Go.Evl
def nmsE (l : List Ent) : List (List UInt8) := l.map (·.rq.nm)
theorem plc_no {s : List UInt8} : ∀ l : List Ent, s ∉ nmsE l → plc s l = none
 | [], _ => rfl
 | y :: q, h => by
  have h1 : ¬ y.rq.nm = s := fun e' => h (by simp [nmsE, e'])
  have h2 : s ∉ nmsE q := fun hm => h (List.mem_cons_of_mem _ hm)
  rw [plc, if_neg h1, plc_no q h2]
  rfl
theorem linG_one {da : Int} {l l' : List Ent} {x : Lnt} {r : List Lnt} (he : stpE l x = 0) (hl : stpL l x da = l') : linG da l (x :: r) = linG da l' r := by
 rw [linG, if_pos he, hl]
theorem lin_new (da : Int) : ∀ (q : List Rqt) (l : List Ent), (∀ x ∈ q, x.nm ∉ nmsE l) → (nmsQ q).Nodup → l.length + q.length ≤ 64 → linG da l (q.map fun x => ⟨[78], x⟩) = (l ++ q.map fun x => ⟨x, false, da⟩, 0)
 | [], l, _, _, _ => by simp [linG]
 | x :: r, l, h, hu, hl => by
  have hp := plc_no l (h x (List.mem_cons_self ..))
  have hc : (nmsQ (x :: r)) = x.nm :: nmsQ r := rfl
  rw [hc, List.nodup_cons] at hu
  rw [List.length_cons] at hl
  rw [List.map_cons, linG_one (l' := l ++ [⟨x, false, da⟩]) (by simp only [stpE, hp]; rw [if_pos (.inl trivial), if_neg (by omega)]) (by simp only [stpL, hp]; rfl)]
  refine (lin_new da r (l ++ [⟨x, false, da⟩]) (fun y hy hm => ?_) hu.2 (by simp; omega)).trans ?_
  rotate_left
  ·simp
  ·unfold nmsE at hm
   rw [List.map_append, List.mem_append] at hm
   rcases hm with hm | hm
   ·exact h y (List.mem_cons_of_mem _ hy) hm
   ·simp only [List.map_cons, List.map_nil, List.mem_singleton] at hm
    exact hu.1 (hm ▸ List.mem_map_of_mem hy)
abbrev e0 (x : Rqt) : Ent := ⟨x, false, 10⟩
theorem twF_mem {l : List Rqt} {q o : Rqt} (h : twF l q = some o) : o ∈ l ∧ o.ca = q.ca ∧ o.nm = q.nm := by
 unfold twF at h
 have h1 := List.mem_of_find?_eq_some h
 have h2 := List.find?_some h
 simp only [twinB, Bool.and_eq_true, decide_eq_true_eq] at h2
 exact ⟨h1, h2⟩
inductive Blk : List Lnt → Prop where
 | no : Blk []
 | new (x : Rqt) : chkRq x = 0 → Blk [⟨[78], x⟩]
 | del (x : Rqt) : chkRq x = 0 → Blk [⟨[68], x⟩]
 | chg (x o : Rqt) : chkRq x = 0 → chkRq o = 0 → twinB x o = true → Blk [⟨[67], x⟩, ⟨[82], o⟩]
theorem lnE_zero {p : Option Lnt} {s : List UInt8} {q : Rqt} (h1 : chkRq q = 0) (h0 : actB s = true) (h2 : actK s = REQ) (h3 : ((openO p || decide (s = [82])) && !(openO p && decide (s = [82]) && twinO ⟨s, q⟩ p)) = false) : lnE REQ p ⟨s, q⟩ = 0 := by
 unfold lnE
 rw [firstI_zero]
 intro e he
 simp only [List.mem_cons, List.not_mem_nil, or_false] at he
 rcases he with rfl | rfl | rfl
 ·rw [chkLn_eq]; exact (if_pos h0).trans h1
 ·exact if_pos h2
 ·rw [h3]; rfl
theorem chk_blk : ∀ (bs : List (List Lnt)) (p : Option Lnt) (i : Nat), openO p = false → (∀ b ∈ bs, Blk b) → chkLs REQ p i bs.flatten = (0, 0)
 | [], p, i, hp, _ => by
  rw [List.flatten_nil, chkLs, hp]; rfl
 | b :: r, p, i, hp, h => by
  have hb := h b (List.mem_cons_self ..)
  have ih := fun p i hp => chk_blk r p i hp fun x hx => h x (List.mem_cons_of_mem _ hx)
  rw [List.flatten_cons]
  cases hb with
  | no => exact ih p i hp
  | new x hx =>
   rw [List.cons_append, List.nil_append, chkLs, if_pos ?_]
   ·exact ih _ _ rfl
   ·exact lnE_zero hx (by decide) (by decide) (by rw [hp]; rfl)
  | del x hx =>
   rw [List.cons_append, List.nil_append, chkLs, if_pos ?_]
   ·exact ih _ _ rfl
   ·exact lnE_zero hx (by decide) (by decide) (by rw [hp]; rfl)
  | chg x o hx ho ht =>
   rw [List.cons_append, List.cons_append, List.nil_append, chkLs, if_pos ?_, chkLs, if_pos ?_]
   ·exact ih _ _ rfl
   ·exact lnE_zero ho (by decide) (by decide) (by show (true && !(true && twinB x o)) = false; rw [ht]; rfl)
   ·exact lnE_zero hx (by decide) (by decide) (by rw [hp]; rfl)
theorem chk_chg {b a : List Rqt} (hb : ∀ x ∈ b, chkRq x = 0) (ha : ∀ x ∈ a, chkRq x = 0) : chkLs REQ none 0 (chgL b a) = (0, 0) := by
 have e : chgL b a = (b.map (dL a) ++ b.map (cL a) ++ a.map (nL b)).flatten := by
  unfold chgL
  simp only [List.flatMap, List.flatten_append]
 rw [e]
 refine chk_blk _ none 0 rfl fun x hx => ?_
 simp only [List.mem_append, List.mem_map] at hx
 rcases hx with (⟨y, hy, rfl⟩ | ⟨y, hy, rfl⟩) | ⟨y, hy, rfl⟩
 ·unfold dL
  split
  ·exact .del y (hb y hy)
  ·exact .no
 ·unfold cL
  split
  ·exact .no
  ·rename_i o hF
   have hm := twF_mem hF
   split
   ·exact .no
   ·exact .chg y o (hb y hy) (ha o hm.1) (by simp [twinB, hm.2.1, hm.2.2])
 ·unfold nL
  split
  ·exact .new y (ha y hy)
  ·exact .no
theorem chk_new {b : List Rqt} (hb : ∀ x ∈ b, chkRq x = 0) : chkLs REQ none 0 (b.map fun x => ⟨[78], x⟩) = (0, 0) := by
 have e : (b.map fun x => (⟨[78], x⟩ : Lnt)) = (b.map fun x => [(⟨[78], x⟩ : Lnt)]).flatten := by
  induction b with
  | nil => rfl
  | cons x r ih => rw [List.map_cons, List.map_cons, List.flatten_cons, ih fun y hy => hb y (List.mem_cons_of_mem _ hy)]; rfl
 rw [e]
 refine chk_blk _ none 0 rfl fun x hx => ?_
 obtain ⟨y, hy, rfl⟩ := List.mem_map.1 hx
 exact .new y (hb y hy)
end Go.Proofs.YtlnlcdnpgjhaaabGreatDoor.Co
/-
 A request that is split at a day: the changes, the message of them, and what is left.
-/
namespace Go.Proofs.YtlnlcdnpgjhaaabGreatDoor.Co
open Go Go.Evl
abbrev OTHR : List UInt8 := [111, 116, 104, 101, 114]
abbrev HERE : List UInt8 := [104, 101, 114, 101]
abbrev S2024 : List UInt8 := [83, 50, 48, 50, 52]
def nwn (x : Rqt) : Lnt := ⟨[78], x⟩
def sentM (l : List Rqt) (day : Int) : Mst := ⟨REQ, HERE, S2024, day, l.map nwn⟩
def oneR (x : Rqt) (day : Int) : Rqt := { x with to := day - 1 }
def twoR (x : Rqt) (day : Int) : Rqt := { x with nm := OTHR, fr := day }
section
variable {x : Rqt} {day : Int} (h : chkRq x = 0) (hd : x.fr < day ∧ day ≤ x.to) (hn : x.nm ≠ OTHR) (hl : x.li ≠ OTHR)
include h
theorem chk_parts : chkPer x.fr x.to x.da = 0 := by
 unfold chkRq at h
 rw [firstI_zero] at h
 exact h _ (by simp)
include hd
theorem chk_one : chkRq (oneR x day) = 0 := by
 have hp := chkPer_zero.1 (chk_parts h)
 unfold chkRq at h ⊢
 rw [firstI_zero] at h ⊢
 intro e he
 simp only [List.mem_cons, List.not_mem_nil, or_false, forall_eq_or_imp, forall_eq] at h he
 have hq : chkPer x.fr (day - 1) x.da = 0 := chkPer_zero.2 (by omega)
 rcases he with rfl | rfl | rfl | rfl | rfl | rfl | rfl | rfl | rfl | rfl | rfl | rfl
 ·exact h.1
 ·exact h.2.1
 ·exact h.2.2.1
 ·exact h.2.2.2.1
 ·exact h.2.2.2.2.1
 ·exact h.2.2.2.2.2.1
 ·exact h.2.2.2.2.2.2.1
 ·exact hq
 ·exact h.2.2.2.2.2.2.2.2.1
 ·exact h.2.2.2.2.2.2.2.2.2.1
 ·exact h.2.2.2.2.2.2.2.2.2.2.1
 ·exact h.2.2.2.2.2.2.2.2.2.2.2
include hl
theorem chk_two : chkRq (twoR x day) = 0 := by
 have hp := chkPer_zero.1 (chk_parts h)
 unfold chkRq at h ⊢
 rw [firstI_zero] at h ⊢
 intro e he
 simp only [List.mem_cons, List.not_mem_nil, or_false, forall_eq_or_imp, forall_eq] at h he
 have hq : chkPer day x.to x.da = 0 := chkPer_zero.2 (by omega)
 rcases he with rfl | rfl | rfl | rfl | rfl | rfl | rfl | rfl | rfl | rfl | rfl | rfl
 ·exact (by decide : nmE OTHR = 0)
 ·exact h.2.1
 ·exact h.2.2.1
 ·exact h.2.2.2.1
 ·exact h.2.2.2.2.1
 ·exact h.2.2.2.2.2.1
 ·exact if_neg hl
 ·exact hq
 ·exact h.2.2.2.2.2.2.2.2.1
 ·exact h.2.2.2.2.2.2.2.2.2.1
 ·exact h.2.2.2.2.2.2.2.2.2.2.1
 ·exact h.2.2.2.2.2.2.2.2.2.2.2
include hn
omit hd hn hl in
theorem chks_one : chkRqs [x] = 0 := by
 unfold chkRqs
 rw [if_neg (show ¬ 64 < [x].length by simp), chkRqG, h]
 simp [firstI, chkRqG]
theorem chks_two : chkRqs [oneR x day, twoR x day] = 0 := by
 have h1 := chk_one h hd
 have h2 := chk_two h hd hl
 have hne : ¬ OTHR = x.nm := fun e => hn e.symm
 unfold chkRqs
 rw [if_neg (show ¬ 64 < [oneR x day, twoR x day].length by simp), chkRqG, h1]
 have e1 : firstI [0, if (oneR x day).nm ∈ ([] : List (List UInt8)) then 9 else 0] = 0 := by simp [firstI]
 rw [if_pos e1, chkRqG, h2]
 have e2 : firstI [0, if (twoR x day).nm ∈ [] ++ [(oneR x day).nm] then 9 else 0] = 0 := by
  rw [if_neg (show ¬ (twoR x day).nm ∈ [] ++ [(oneR x day).nm] from fun hm => hne (List.mem_singleton.1 hm))]
  rfl
 rw [if_pos e2, chkRqG]
omit h hl in
theorem chg_parts : chgL [x] [oneR x day, twoR x day] = [⟨[67], x⟩, ⟨[82], oneR x day⟩, ⟨[78], twoR x day⟩] := by
 have hne : ¬ OTHR = x.nm := fun e => hn e.symm
 have t1 : twF [oneR x day, twoR x day] x = some (oneR x day) := by
  have : twinB (oneR x day) x = true := by simp [twinB, oneR]
  simp [twF, this]
 have t2 : twF [x] (oneR x day) = some x := by
  have : twinB x (oneR x day) = true := by simp [twinB, oneR]
  simp [twF, this]
 have t3 : twF [x] (twoR x day) = none := by
  have : twinB x (twoR x day) = false := by simp [twinB, twoR, hn]
  simp [twF, this]
 have hd1 : ¬ oneR x day = x := fun e => by
  have : day - 1 = x.to := congrArg Rqt.to e
  omega
 unfold chgL
 simp only [List.flatMap_cons, List.flatMap_nil, dL, cL, nL, t1, t2, t3, if_neg hd1, List.append_nil, List.nil_append, List.cons_append]
def chgM (x : Rqt) (day : Int) : Mst := ⟨REQ, HERE, S2024, 200, [⟨[67], x⟩, ⟨[82], oneR x day⟩, ⟨[78], twoR x day⟩]⟩
omit hd hn hl in
theorem ok_sent : OkMs (sentM [x] 100) :=
 ⟨by show msgB REQ = true; decide, by show headE HERE S2024 100 = 0; decide +kernel, by show (1 : Nat) ≤ 64; decide, by
  show (chkLs REQ none 0 ([x].map fun x => ⟨[78], x⟩)).2 = 0
  rw [chk_new (fun y hy => by rw [List.mem_singleton.1 hy]; exact h)]⟩
theorem ok_chg : OkMs (chgM x day) :=
 ⟨by show msgB REQ = true; decide, by show headE HERE S2024 200 = 0; decide +kernel, by show (3 : Nat) ≤ 64; decide, by
  show (chkLs REQ none 0 [⟨[67], x⟩, ⟨[82], oneR x day⟩, ⟨[78], twoR x day⟩]).2 = 0
  rw [← chg_parts hd hn, chk_chg (fun y hy => by rw [List.mem_singleton.1 hy]; exact h) (fun y hy => by
   rcases List.mem_cons.1 hy with rfl | hy
   ·exact chk_one h hd
   ·rw [List.mem_singleton.1 hy]; exact chk_two h hd hl)]⟩
theorem reqs_parts : reqs [sentM [x] 100, chgM x day] = ([⟨oneR x day, false, 200⟩, ⟨twoR x day, false, 200⟩], 0, 0) := by
 have hne : ¬ x.nm = OTHR := hn
 have m1 : chkMs (sentM [x] 100) = 0 := chkMs_ok.2 (ok_sent h)
 have m2 : chkMs (chgM x day) = 0 := chkMs_ok.2 (ok_chg h hd hn hl)
 have e1 : msgE (sentM [x] 100) (sentM [x] 100) (sentM [x] 100) = 0 := by
  unfold msgE
  rw [m1, if_pos (show (sentM [x] 100).ki = REQ from rfl), if_pos ⟨rfl, rfl⟩, if_neg (Int.lt_irrefl _)]
  rfl
 have e2 : msgE (sentM [x] 100) (sentM [x] 100) (chgM x day) = 0 := by
  unfold msgE
  rw [m2, if_pos (show (chgM x day).ki = REQ from rfl), if_pos ⟨rfl, rfl⟩, if_neg (show ¬ (chgM x day).da < (sentM [x] 100).da from (by decide : ¬ (200 : Int) < 100))]
  rfl
 have g1 : linG 100 [] (sentM [x] 100).ls = ([⟨x, false, 100⟩], 0) := lin_new 100 [x] [] (fun _ _ h => by cases h) (by simp [nmsQ]) (by simp)
 have p1 : ∀ (e : Ent) r, e.rq.nm = x.nm → plc x.nm (e :: r) = some 0 := fun e r he => by rw [plc, if_pos he]
 have p2 : plc OTHR [⟨oneR x day, false, 200⟩] = none := by
  unfold plc
  exact if_neg (show ¬ x.nm = OTHR from hn)
 have g2 : linG 200 [⟨x, false, 100⟩] (chgM x day).ls = ([⟨oneR x day, false, 200⟩, ⟨twoR x day, false, 200⟩], 0) := by
  show linG 200 [⟨x, false, 100⟩] [⟨[67], x⟩, ⟨[82], oneR x day⟩, ⟨[78], twoR x day⟩] = _
  have q1 := p1 ⟨x, false, 100⟩ [] rfl
  rw [linG_one (l' := [⟨x, false, 100⟩]) (by
    unfold stpE
    rw [show plc (Lnt.rq ⟨[67], x⟩).nm [⟨x, false, 100⟩] = some 0 from q1]
    simp) (by
    unfold stpL
    rw [show plc (Lnt.rq ⟨[67], x⟩).nm [⟨x, false, 100⟩] = some 0 from q1]
    simp)]
  rw [linG_one (l' := [⟨oneR x day, false, 200⟩]) (by
    unfold stpE
    rw [show plc (Lnt.rq ⟨[82], oneR x day⟩).nm [⟨x, false, 100⟩] = some 0 from q1]
    simp) (by
    unfold stpL
    rw [show plc (Lnt.rq ⟨[82], oneR x day⟩).nm [⟨x, false, 100⟩] = some 0 from q1]
    simp)]
  rw [linG_one (l' := [⟨oneR x day, false, 200⟩, ⟨twoR x day, false, 200⟩]) (by
    unfold stpE
    rw [show plc (Lnt.rq ⟨[78], twoR x day⟩).nm [⟨oneR x day, false, 200⟩] = none from p2]
    simp) (by
    unfold stpL
    rw [show plc (Lnt.rq ⟨[78], twoR x day⟩).nm [⟨oneR x day, false, 200⟩] = none from p2]
    simp)]
  rw [linG]
 show reqG (sentM [x] 100) (sentM [x] 100) 0 [] [sentM [x] 100, chgM x day] = _
 rw [reqG, if_pos e1, show (sentM [x] 100).da = 100 from rfl, g1, if_pos rfl, reqG, if_pos e2, show (chgM x day).da = 200 from rfl, g2, if_pos rfl, reqG]
end
end Go.Proofs.YtlnlcdnpgjhaaabGreatDoor.Co
/-
 The Chock laws' fixed example; the message that is sent; the messages that are printed, parsed and read.
-/
namespace Go.Proofs.YtlnlcdnpgjhaaabGreatDoor.Co
open Go Go.Evl
set_option maxRecDepth 100000
section
variable {E : Oracle} (g : Good E)
include g
abbrev chkT : List UInt8 := [78, 32, 97, 98, 32, 119, 32, 68, 32, 102, 97, 114, 32, 48, 48, 48, 48, 48, 32, 48, 48, 48, 48, 57, 32, 48, 48, 48, 48, 48, 54, 55, 32, 48, 56, 48, 48, 32, 48, 48, 48, 32, 51, 32, 48, 48, 32, 45, 32, 45]
abbrev chkX : List D := [.str [119], .str [97, 98], .str [68], .str [], .str [102, 97, 114], .str [], DI 0, DI 9, DI 96, DI 480, DI 0, DI 3, DI 0]
theorem ck1 : Fc E n_message_PrintLine [.d (.agg (.str [78] :: chkX))] (.tup [S chkT, I 0]) := g.compR 1000 (by decide +kernel)
theorem ck2 : Fc E n_message_ParseLine [S chkT] (.tup [.d (.agg (.str [78] :: chkX)), I 0, I 0]) := g.compR 1000 (by decide +kernel)
theorem ck3 : Fc E n_calendar_DaysOf [Per 0 9 96] (.tup [LI [0, 1, 7, 8], I 0]) := g.compR 100 (by decide +kernel)
theorem ck4 : Fc E n_ref01_SameInts [LI [0, 1, 7, 8], LI [0, 1, 7, 8]] (B true) := g.compR 100 (by decide +kernel)
theorem s_chockMail : Fc E n_top_chockMail [] (B true) := by
 refine g.fn code_top_chockMail rfl ?_
 repeat' ((conv => whnf); first
 | refine Ya ?_ | refine Yb ?_ | refine Yc ?_ | refine Yd ?_ | refine Ye ?_ | refine Yf ?_ | refine Yg ?_ | refine Yh ?_ | refine Yi rfl ?_ | refine Yj rfl ?_ | refine Yk rfl ?_ | refine Yl rfl ?_
  | (apply CallI.of; first | exact ck1 g | exact ck2 g | exact ck3 g | exact ck4 g)
  | (exact Ret.mk rfl))
set_option maxHeartbeats 8000000 in
theorem s_chockSent (l : List Rqt) (day : Int) (hl : l.length ≤ 1000) : Fc E n_top_chockSent [LQ l, I day] (Msv (sentM l day)) := by
 have hR : Msv (sentM l day) = .d (.agg [.str REQ, .str HERE, .str S2024, DI day, .list l.length (l.flatMap fun x => (nwn x).cells)]) := by
  show V.d (.agg [.str REQ, .str HERE, .str S2024, DI day, .list (l.map nwn).length ((l.map nwn).flatMap Lnt.cells)]) = _
  rw [List.length_map, List.flatMap_map]
 rw [hR]
 refine g.fn code_top_chockSent rfl ?_
 repeat' ((conv => whnf); first
 | refine Ya ?_ | refine Yb ?_ | refine Yc ?_ | refine Yd ?_ | refine Ye ?_ | refine Yf ?_ | refine Yg ?_ | refine Yh ?_ | refine Yi rfl ?_ | refine Yj rfl ?_ | refine Yk rfl ?_ | refine Yl rfl ?_
  | fail)
 refine LoopW.to (LoopW.up g (fun k => [(4, .ptr ⟨0, 4, 1⟩ 0 0), (5, .ptr ⟨0, 5, 1⟩ 0 0), (10, LQ l), (11, I l.length), (12, I k)]) (fun k => [(⟨0, 4, 0⟩, .row false ty_message_Line 14 0 []), (⟨0, 4, 1⟩, .cells ty_message_Message [S [], S [], S [], I 0, .ref ⟨0, 4, 0⟩ 0 0 0]), (⟨0, 9, 0⟩, .row false ty_message_Line 14 k ((l.take k).flatMap fun x => (nwn x).cells)), (⟨0, 5, 0⟩, .row false ty_message_Line 14 0 []), (⟨0, 5, 1⟩, .cells ty_message_Message [S REQ, S HERE, S S2024, I day, .ref ⟨0, 9, 0⟩ 0 k k])]) l.length (fun k hk ih => ?_) 0 (Nat.zero_le _)) rfl rfl
 by_cases hlt : k < l.length
 ·have ih := ih hlt
  have hf := flatR_take (fun x => (nwn x).cells) l k hlt
  have hfl := flatR_length (fun x => (nwn x).cells) 14 (fun _ => rfl) (l.take k)
  rw [List.length_take, Nat.min_eq_left hk] at hfl
  rw [hf] at ih
  repeat' ((conv => whnf); first
  | refine Ya ?_ | refine Yb ?_ | refine Yc ?_ | refine Yd ?_ | refine Ye ?_ | refine Yf ?_ | refine Yg ?_ | refine Yh ?_ | refine Yi rfl ?_ | refine Yj rfl ?_ | refine Yk rfl ?_ | refine Yl rfl ?_
   | (refine PickW.rec Rqt.cells_length k rfl hlt ?_)
   | (refine Need.mk ⟨rfl, rfl, rfl, rfl, rfl, rfl, by show (k + 1) * 168 ≤ _; omega, by omega⟩ ?_)
   | (refine LoopW.to ih rfl rfl)
   | fail)
 ·obtain rfl : k = l.length := by omega
  rw [List.take_length]
  repeat' ((conv => whnf); first
  | refine Ya ?_ | refine Yb ?_ | refine Yc ?_ | refine Yd ?_ | refine Ye ?_ | refine Yf ?_ | refine Yg ?_ | refine Yh ?_ | refine Yi rfl ?_ | refine Yj rfl ?_ | refine Yk rfl ?_ | refine Yl rfl ?_
   | (refine Need.mk ⟨rfl, Nat.le_refl 5⟩ ?_)
   | (rw [if_pos (⟨rfl, rfl⟩ : _ ∧ _)])
   | (refine Ret.mk rfl)
   | fail)
set_option maxHeartbeats 8000000 in
theorem s_chockRead (ms : List Mst) (hl : ms.length ≤ 64) (hr : (reqs ms).1.length ≤ 1000) (hk : ∀ m ∈ ms, chkMs m = 0 ∧ (msgL m).length ≤ 16384) : Fc E n_top_chockRead [LMs ms] (.tup [LQ ((reqs ms).1.map (·.rq)), B (decide ((reqs ms).2.2 = 0))]) := by
 refine g.fn code_top_chockRead rfl ?_
 repeat' ((conv => whnf); first
 | refine Ya ?_ | refine Yb ?_ | refine Yc ?_ | refine Yd ?_ | refine Ye ?_ | refine Yf ?_ | refine Yg ?_ | refine Yh ?_ | refine Yi rfl ?_ | refine Yj rfl ?_ | refine Yk rfl ?_ | refine Yl rfl ?_
  | fail)
 refine LoopW.to (LoopW.up g (fun k => [(4, .ref ⟨0, 4, 0⟩ 0 k k), (18, LMs ms), (19, I ms.length), (20, I k)]) (fun k => [(⟨0, 2, 0⟩, .row false ty_api_Request 13 0 []), (⟨0, 4, 0⟩, .row false ty_message_Message 5 k ((ms.take k).flatMap Mst.cells))]) ms.length (fun k hk' ih => ?_) 0 (Nat.zero_le _)) rfl rfl
 by_cases hlt : k < ms.length
 ·have ih := ih hlt
  have hf := flatR_take Mst.cells ms k hlt
  have hfl := flatR_length Mst.cells 5 Mst.cells_length (ms.take k)
  rw [List.length_take, Nat.min_eq_left hk'] at hfl
  rw [hf] at ih
  obtain ⟨hz, hlen⟩ := hk _ (List.getElem_mem hlt)
  have ok := chkMs_ok.1 hz
  have q1 := s_PrintMessage g ms[k] (by have := ok.ln; omega)
  rw [if_pos hz, hz] at q1
  have q2 := s_ParseMessage g (msgL ms[k]) (by omega)
  rw [parse_back ok hlen] at q2
  dsimp only at q2
  repeat' ((conv => whnf); first
  | refine Ya ?_ | refine Yb ?_ | refine Yc ?_ | refine Yd ?_ | refine Ye ?_ | refine Yf ?_ | refine Yg ?_ | refine Yh ?_ | refine Yi rfl ?_ | refine Yj rfl ?_ | refine Yk rfl ?_ | refine Yl rfl ?_
   | (refine PickW.rec Mst.cells_length k rfl hlt ?_)
   | (apply CallI.of; assumption)
   | (refine Need.mk ⟨rfl, rfl, rfl, rfl, rfl, rfl, by show (k + 1) * 80 ≤ _; omega, by omega⟩ ?_)
   | (refine LoopW.to ih rfl rfl)
   | fail)
 ·obtain rfl : k = ms.length := by omega
  rw [List.take_length]
  clear ih
  have q := s_Requests g ms (by omega) (fun m hm => by
   have := (chkMs_ok.1 (hk m hm).1).ln
   omega)
  generalize reqs ms = R at *
  obtain ⟨es, n, e⟩ := R
  dsimp only at q hr ⊢
  repeat' ((conv => whnf); first
  | refine Ya ?_ | refine Yb ?_ | refine Yc ?_ | refine Yd ?_ | refine Ye ?_ | refine Yf ?_ | refine Yg ?_ | refine Yh ?_ | refine Yi rfl ?_ | refine Yj rfl ?_ | refine Yk rfl ?_ | refine Yl rfl ?_
   | (apply CallI.of; assumption)
   | (rw [if_pos (⟨rfl, rfl⟩ : _ ∧ _)])
   | (refine CallI.of q ?_)
   | fail)
  clear q
  have hR : LQ (es.map (·.rq)) = .d (.list es.length (es.flatMap fun x => x.rq.cells)) := by
   show V.d (.list (es.map (·.rq)).length ((es.map (·.rq)).flatMap Rqt.cells)) = _
   rw [List.length_map, List.flatMap_map]
  rw [hR]
  refine LoopW.to (LoopW.up g (fun k => [(14, I e), (15, .ref ⟨0, 15, 0⟩ 0 k k), (52, LE es), (53, I es.length), (54, I k)]) (fun k => [(⟨0, 2, 0⟩, .row false ty_api_Request 13 0 []), (⟨0, 4, 0⟩, .row false ty_message_Message 5 ms.length (ms.flatMap Mst.cells)), (⟨0, 15, 0⟩, .row false ty_api_Request 13 k ((es.take k).flatMap fun x => x.rq.cells))]) es.length (fun k hk' ih => ?_) 0 (Nat.zero_le _)) rfl rfl
  by_cases hlt : k < es.length
  ·have ih := ih hlt
   have hf := flatR_take (fun x : Ent => x.rq.cells) es k hlt
   have hfl := flatR_length (fun x : Ent => x.rq.cells) 13 (fun _ => rfl) (es.take k)
   rw [List.length_take, Nat.min_eq_left hk'] at hfl
   rw [hf] at ih
   repeat' ((conv => whnf); first
   | refine Ya ?_ | refine Yb ?_ | refine Yc ?_ | refine Yd ?_ | refine Ye ?_ | refine Yf ?_ | refine Yg ?_ | refine Yh ?_ | refine Yi rfl ?_ | refine Yj rfl ?_ | refine Yk rfl ?_ | refine Yl rfl ?_
    | (refine PickW.rec Ent.cells_length k rfl hlt ?_)
    | (refine Need.mk ⟨rfl, rfl, rfl, rfl, rfl, rfl, by show (k + 1) * 152 ≤ _; omega, by omega⟩ ?_)
    | (refine LoopW.to ih rfl rfl)
    | fail)
  ·obtain rfl : k = es.length := by omega
   rw [List.take_length]
   clear ih
   by_cases he : e = 0
   ·rw [decide_eq_true he]
    repeat' ((conv => whnf); first
    | refine Ya ?_ | refine Yb ?_ | refine Yc ?_ | refine Yd ?_ | refine Ye ?_ | refine Yf ?_ | refine Yg ?_ | refine Yh ?_ | refine Yi rfl ?_ | refine Yj rfl ?_ | refine Yk rfl ?_ | refine Yl rfl ?_
     | (refine Cmp.tt he ?_)
     | (rw [if_pos (⟨rfl, rfl⟩ : _ ∧ _)])
     | (refine Ret.mk rfl)
     | fail)
   ·rw [decide_eq_false he]
    repeat' ((conv => whnf); first
    | refine Ya ?_ | refine Yb ?_ | refine Yc ?_ | refine Yd ?_ | refine Ye ?_ | refine Yf ?_ | refine Yg ?_ | refine Yh ?_ | refine Yi rfl ?_ | refine Yj rfl ?_ | refine Yk rfl ?_ | refine Yl rfl ?_
     | (refine Cmp.ff he ?_)
     | (rw [if_pos (⟨rfl, rfl⟩ : _ ∧ _)])
     | (refine Ret.mk rfl)
     | fail)
end
end Go.Proofs.YtlnlcdnpgjhaaabGreatDoor.Co
/-
 Messages: Changed, by the program.
-/
namespace Go.Proofs.YtlnlcdnpgjhaaabGreatDoor.Co
open Go Go.Evl
set_option maxRecDepth 100000
section
variable {E : Oracle} (g : Good E)
include g
set_option maxHeartbeats 16000000 in
theorem s_Changed (b a : List Rqt) (hb : b.length ≤ 1000000) (ha : a.length ≤ 1000000) :
  (firstI [chkRqs b, chkRqs a] ≠ 0 → Fc E n_message_Changed [LQ b, LQ a] (.tup [LL [], I (firstI [chkRqs b, chkRqs a])])) ∧
  (firstI [chkRqs b, chkRqs a] = 0 → Fc E n_message_Changed [LQ b, LQ a] (if 64 < (chgL b a).length then .tup [LL [], I 5] else .tup [LL (chgL b a), I 0])) := by
 have h1 := s_checkRequests g b hb
 have h2 := s_checkRequests g a ha
 refine ⟨fun hz => ?_, fun hz => ?_⟩
 ·refine g.fn code_message_Changed rfl ?_
  repeat' ((conv => whnf); first
  | refine Ya ?_ | refine Yb ?_ | refine Yc ?_ | refine Yd ?_ | refine Ye ?_ | refine Yf ?_ | refine Yg ?_ | refine Yh ?_ | refine Yi rfl ?_ | refine Yj rfl ?_ | refine Yk rfl ?_ | refine Yl rfl ?_
   | (apply CallI.of; assumption)
   | (refine CallI.of (s_mfirst2 g _ _) ?_)
   | (refine Cmp.ff hz ?_)
   | (refine Ret.mk rfl))
 ·generalize hR : (if 64 < (chgL b a).length then V.tup [LL [], I 5] else .tup [LL (chgL b a), I 0]) = R
  refine g.fn code_message_Changed rfl ?_
  repeat' ((conv => whnf); first
  | refine Ya ?_ | refine Yb ?_ | refine Yc ?_ | refine Yd ?_ | refine Ye ?_ | refine Yf ?_ | refine Yg ?_ | refine Yh ?_ | refine Yi rfl ?_ | refine Yj rfl ?_ | refine Yk rfl ?_ | refine Yl rfl ?_
   | (apply CallI.of; assumption)
   | (refine CallI.of (s_mfirst2 g _ _) ?_)
   | (refine Cmp.tt hz ?_)
   | (refine In.enter g.lim rfl code_message_filtered_api_Request_message_Line ?_))
  clear h1 h2 hz
  refine LoopW.to (LoopW.up g (fun k => [(1, .fn n_message_Changed_2 [] [.ptr ⟨0, 7, 0⟩ 0 0, .ptr ⟨0, 3, 0⟩ 0 0]), (5, .ref ⟨1, 5, 0⟩ 0 ((b.take k).flatMap (dL a)).length ((b.take k).flatMap (dL a)).length), (10, LQ b), (11, I b.length), (12, I k)]) (fun k => [(⟨0, 2, 0⟩, .cells ty_Lapi_Request [LQ b]), (⟨0, 3, 0⟩, .cells ty_Lapi_Request [LQ a]), (⟨0, 4, 0⟩, .row false ty_message_Line 14 0 []), (⟨0, 7, 0⟩, .cells ty_func_Lapi_Request_api_Request_api_Request_bool [.fn n_message_Changed_1 [] []]), (⟨1, 4, 0⟩, .row false ty_message_Line 14 0 []), (⟨1, 5, 0⟩, .row false ty_message_Line 14 ((b.take k).flatMap (dL a)).length (((b.take k).flatMap (dL a)).flatMap Lnt.cells))]) b.length (fun k hk ih => ?_) 0 (Nat.zero_le _)) rfl rfl
  by_cases hlt : k < b.length
  ·clear hR
   have hT := s_twin g a b[k] ha
   have ih := ih hlt
   rw [fm_take (dL a) b k hlt] at ih
   have hX := take_len (dL_len a) b k
   generalize (b.take k).flatMap (dL a) = X at *
   have hfl := flatR_length Lnt.cells 14 Lnt.cells_length X
   cases hF : twF a b[k] with
   | none =>
    have hq := hT.1 hF
    rw [show dL a b[k] = [⟨[68], b[k]⟩] by unfold dL; rw [hF], List.flatMap_append, List.length_append] at ih
    repeat' ((conv => whnf); first
    | refine Ya ?_ | refine Yb ?_ | refine Yc ?_ | refine Yd ?_ | refine Ye ?_ | refine Yf ?_ | refine Yg ?_ | refine Yh ?_ | refine Yi rfl ?_ | refine Yj rfl ?_ | refine Yk rfl ?_ | refine Yl rfl ?_
     | (refine PickW.rec Rqt.cells_length k rfl hlt ?_)
     | (refine In.enter g.lim rfl code_message_Changed_2 ?_)
     | (refine CallI.of hq ?_)
     | (refine Need.mk (by simp only [List.length_cons, List.length_nil]; omega) ?_)
     | (refine LoopW.to ih rfl rfl))
   | some o =>
    have hq := hT.2 o hF
    rw [show dL a b[k] = [] by unfold dL; rw [hF], List.append_nil] at ih
    repeat' ((conv => whnf); first
    | refine Ya ?_ | refine Yb ?_ | refine Yc ?_ | refine Yd ?_ | refine Ye ?_ | refine Yf ?_ | refine Yg ?_ | refine Yh ?_ | refine Yi rfl ?_ | refine Yj rfl ?_ | refine Yk rfl ?_ | refine Yl rfl ?_
     | (refine PickW.rec Rqt.cells_length k rfl hlt ?_)
     | (refine In.enter g.lim rfl code_message_Changed_2 ?_)
     | (refine CallI.of hq ?_)
     | (refine LoopW.to ih rfl rfl))
  ·obtain rfl : k = b.length := by omega
   clear ih
   rw [List.take_length]
   have hD := one_len 1 (dL_len a) b
   unfold chgL at hR
   generalize b.flatMap (dL a) = Dx at *
   repeat' ((conv => whnf); first
   | refine Ya ?_ | refine Yb ?_ | refine Yc ?_ | refine Yd ?_ | refine Ye ?_ | refine Yf ?_ | refine Yg ?_ | refine Yh ?_ | refine Yi rfl ?_ | refine Yj rfl ?_ | refine Yk rfl ?_ | refine Yl rfl ?_
    | (refine Some'.row (by decide) rfl ?_))
   refine LoopW.to (LoopW.up g (fun k => [(2, .ptr ⟨0, 2, 0⟩ 0 0), (3, .ptr ⟨0, 3, 0⟩ 0 0), (7, .ptr ⟨0, 7, 0⟩ 0 0), (8, .ref ⟨0, 24, 0⟩ 0 (catR Dx ((b.take k).flatMap (cL a))).length (catR Dx ((b.take k).flatMap (cL a))).length), (25, LQ b), (26, I b.length), (27, I k)]) (fun k => [(⟨0, 2, 0⟩, .cells ty_Lapi_Request [LQ b]), (⟨0, 3, 0⟩, .cells ty_Lapi_Request [LQ a]), (⟨0, 4, 0⟩, .row false ty_message_Line 14 0 []), (⟨0, 7, 0⟩, .cells ty_func_Lapi_Request_api_Request_api_Request_bool [.fn n_message_Changed_1 [] []]), (⟨0, 24, 0⟩, .row false ty_message_Line 14 (catR Dx ((b.take k).flatMap (cL a))).length ((catR Dx ((b.take k).flatMap (cL a))).flatMap Lnt.cells))]) b.length (fun k hk ih => ?_) 0 (Nat.zero_le _)) rfl rfl
   by_cases hlt : k < b.length
   ·clear hR
    have hT := s_twin g a b[k] ha
    have ih := ih hlt
    rw [catR_succ Dx (cL a) hlt] at ih
    have hX : (catR Dx ((b.take k).flatMap (cL a))).length ≤ 3000000 := by
     have := take_len (cL_len a) b k
     rw [catR_eq, List.length_append]
     omega
    generalize catR Dx ((b.take k).flatMap (cL a)) = X at *
    have hfl := flatR_length Lnt.cells 14 Lnt.cells_length X
    cases hF : twF a b[k] with
    | none =>
     have hq := hT.1 hF
     rw [show cL a b[k] = [] by unfold cL; rw [hF], List.append_nil] at ih
     repeat' ((conv => whnf); first
     | refine Ya ?_ | refine Yb ?_ | refine Yc ?_ | refine Yd ?_ | refine Ye ?_ | refine Yf ?_ | refine Yg ?_ | refine Yh ?_ | refine Yi rfl ?_ | refine Yj rfl ?_ | refine Yk rfl ?_ | refine Yl rfl ?_
      | (refine PickW.rec Rqt.cells_length k rfl hlt ?_)
      | (refine CallI.of hq ?_)
      | (refine LoopW.to ih rfl rfl))
    | some o =>
     have hq := hT.2 o hF
     by_cases he : o = b[k]
     ·rw [show cL a b[k] = [] by unfold cL; rw [hF]; exact if_pos he, List.append_nil] at ih
      have hp : o.nm = b[k].nm ∧ o.ca = b[k].ca ∧ o.ki = b[k].ki ∧ o.te = b[k].te ∧ o.pa = b[k].pa ∧ o.li = b[k].li ∧ o.fr = b[k].fr ∧ o.to = b[k].to ∧ o.da = b[k].da ∧ o.mi = b[k].mi ∧ o.se = b[k].se ∧ o.si = b[k].si ∧ o.no = b[k].no := by
       rw [he]
       exact ⟨rfl, rfl, rfl, rfl, rfl, rfl, rfl, rfl, rfl, rfl, rfl, rfl, rfl⟩
      repeat' ((conv => whnf); first
      | refine Ya ?_ | refine Yb ?_ | refine Yc ?_ | refine Yd ?_ | refine Ye ?_ | refine Yf ?_ | refine Yg ?_ | refine Yh ?_ | refine Yi rfl ?_ | refine Yj rfl ?_ | refine Yk rfl ?_ | refine Yl rfl ?_
       | (refine PickW.rec Rqt.cells_length k rfl hlt ?_)
       | (refine CallI.of hq ?_)
       | (refine Cmp.tt hp ?_)
       | (refine LoopW.to ih rfl rfl))
     ·rw [show cL a b[k] = [⟨[67], b[k]⟩, ⟨[82], o⟩] by unfold cL; rw [hF]; exact if_neg he, List.flatMap_append, List.length_append] at ih
      repeat' ((conv => whnf); first
      | refine Ya ?_ | refine Yb ?_ | refine Yc ?_ | refine Yd ?_ | refine Ye ?_ | refine Yf ?_ | refine Yg ?_ | refine Yh ?_ | refine Yi rfl ?_ | refine Yj rfl ?_ | refine Yk rfl ?_ | refine Yl rfl ?_
       | (refine PickW.rec Rqt.cells_length k rfl hlt ?_)
       | (refine CallI.of hq ?_)
       | (refine Cmp.ff (fun h => he (rq_ext h)) ?_)
       | (refine Need.mk (by simp only [List.length_cons, List.length_nil]; omega) ?_)
       | (refine LoopW.to ih rfl rfl))
   ·obtain rfl : k = b.length := by omega
    clear ih
    rw [List.take_length]
    have hP : (Dx ++ b.flatMap (cL a)).length ≤ 3000000 := by
     have := one_len 2 (cL_len a) b
     rw [List.length_append]
     omega
    rw [catR_eq]
    generalize Dx ++ b.flatMap (cL a) = Px at *
    repeat' ((conv => whnf); first
    | refine Ya ?_ | refine Yb ?_ | refine Yc ?_ | refine Yd ?_ | refine Ye ?_ | refine Yf ?_ | refine Yg ?_ | refine Yh ?_ | refine Yi rfl ?_ | refine Yj rfl ?_ | refine Yk rfl ?_ | refine Yl rfl ?_
     | (refine In.enter g.lim rfl code_message_filtered_api_Request_message_Line ?_))
    refine LoopW.to (LoopW.up g (fun k => [(1, .fn n_message_Changed_3 [] [.ptr ⟨0, 7, 0⟩ 0 0, .ptr ⟨0, 2, 0⟩ 0 0]), (5, .ref ⟨1, 5, 0⟩ 0 ((a.take k).flatMap (nL b)).length ((a.take k).flatMap (nL b)).length), (10, LQ a), (11, I a.length), (12, I k)]) (fun k => [(⟨0, 2, 0⟩, .cells ty_Lapi_Request [LQ b]), (⟨0, 3, 0⟩, .cells ty_Lapi_Request [LQ a]), (⟨0, 4, 0⟩, .row false ty_message_Line 14 0 []), (⟨0, 7, 0⟩, .cells ty_func_Lapi_Request_api_Request_api_Request_bool [.fn n_message_Changed_1 [] []]), (⟨0, 24, 0⟩, .row false ty_message_Line 14 Px.length (Px.flatMap Lnt.cells)), (⟨1, 4, 0⟩, .row false ty_message_Line 14 0 []), (⟨1, 5, 0⟩, .row false ty_message_Line 14 ((a.take k).flatMap (nL b)).length (((a.take k).flatMap (nL b)).flatMap Lnt.cells))]) a.length (fun k hk ih => ?_) 0 (Nat.zero_le _)) rfl rfl
    by_cases hlt : k < a.length
    ·clear hR
     have hT := s_twin g b a[k] hb
     have ih := ih hlt
     rw [fm_take (nL b) a k hlt] at ih
     have hX := take_len (nL_len b) a k
     generalize (a.take k).flatMap (nL b) = X at *
     have hfl := flatR_length Lnt.cells 14 Lnt.cells_length X
     cases hF : twF b a[k] with
     | none =>
      have hq := hT.1 hF
      rw [show nL b a[k] = [⟨[78], a[k]⟩] by unfold nL; rw [hF], List.flatMap_append, List.length_append] at ih
      repeat' ((conv => whnf); first
      | refine Ya ?_ | refine Yb ?_ | refine Yc ?_ | refine Yd ?_ | refine Ye ?_ | refine Yf ?_ | refine Yg ?_ | refine Yh ?_ | refine Yi rfl ?_ | refine Yj rfl ?_ | refine Yk rfl ?_ | refine Yl rfl ?_
       | (refine PickW.rec Rqt.cells_length k rfl hlt ?_)
       | (refine In.enter g.lim rfl code_message_Changed_3 ?_)
       | (refine CallI.of hq ?_)
       | (refine Need.mk (by simp only [List.length_cons, List.length_nil]; omega) ?_)
       | (refine LoopW.to ih rfl rfl))
     | some o =>
      have hq := hT.2 o hF
      rw [show nL b a[k] = [] by unfold nL; rw [hF], List.append_nil] at ih
      repeat' ((conv => whnf); first
      | refine Ya ?_ | refine Yb ?_ | refine Yc ?_ | refine Yd ?_ | refine Ye ?_ | refine Yf ?_ | refine Yg ?_ | refine Yh ?_ | refine Yi rfl ?_ | refine Yj rfl ?_ | refine Yk rfl ?_ | refine Yl rfl ?_
       | (refine PickW.rec Rqt.cells_length k rfl hlt ?_)
       | (refine In.enter g.lim rfl code_message_Changed_3 ?_)
       | (refine CallI.of hq ?_)
       | (refine LoopW.to ih rfl rfl))
    ·obtain rfl : k = a.length := by omega
     clear ih
     rw [List.take_length]
     have hN := one_len 1 (nL_len b) a
     generalize a.flatMap (nL b) = Nx at *
     have f1 := flatR_length Lnt.cells 14 Lnt.cells_length Px
     have f2 := flatR_length Lnt.cells 14 Lnt.cells_length Nx
     rw [List.length_append] at hR
     by_cases hn : 64 < Px.length + Nx.length
     ·rw [if_pos hn] at hR
      rw [← hR]
      repeat' ((conv => whnf); first
      | refine Ya ?_ | refine Yb ?_ | refine Yc ?_ | refine Yd ?_ | refine Ye ?_ | refine Yf ?_ | refine Yg ?_ | refine Yh ?_ | refine Yi rfl ?_ | refine Yj rfl ?_ | refine Yk rfl ?_ | refine Yl rfl ?_
       | (rw [if_pos (⟨rfl, rfl⟩ : _ ∧ _)])
       | (refine Need.mk ⟨rfl, rfl, rfl, rfl, rfl, f2, by show (Px.length + Nx.length) * 168 ≤ _; omega, by omega⟩ ?_)
       | (refine Ret.mk rfl))
     ·rw [if_neg hn] at hR
      rw [← hR]
      repeat' ((conv => whnf); first
      | refine Ya ?_ | refine Yb ?_ | refine Yc ?_ | refine Yd ?_ | refine Ye ?_ | refine Yf ?_ | refine Yg ?_ | refine Yh ?_ | refine Yi rfl ?_ | refine Yj rfl ?_ | refine Yk rfl ?_ | refine Yl rfl ?_
       | (rw [if_pos (⟨rfl, rfl⟩ : _ ∧ _)])
       | (refine Need.mk ⟨rfl, rfl, rfl, rfl, rfl, f2, by show (Px.length + Nx.length) * 168 ≤ _; omega, by omega⟩ ?_)
       | (refine Ret.mk ?_))
      show _ = V.tup [V.d (.list (Px ++ Nx).length ((Px ++ Nx).flatMap Lnt.cells)), I 0]
      rw [List.flatMap_append, List.length_append]
end
end Go.Proofs.YtlnlcdnpgjhaaabGreatDoor.Co
/-
 Moved periods: what the program's function and the reference's give.
-/
namespace Go.Proofs.YtlnlcdnpgjhaaabGreatDoor.Co
open Go Go.Evl
section
variable {E : Oracle} (g : Good E)
include g
theorem s_SplitP (f t d day : Int) : Fc E n_calendar_Split [Per f t d, I day] (.tup
  (if chkPer f t d ≠ 0 then [Per2 0 0 0 0 0 0, I (chkPer f t d)] else if day ≤ f ∨ t < day then [Per2 0 0 0 0 0 0, I 30] else [Per2 f (day - 1) d day t d, I 0])) := by
 refine g.fn code_calendar_Split rfl ?_
 have k1 := @chkPer_zero f t d
 repeat' ((conv => whnf); first
 | refine Ya ?_ | refine Yb ?_ | refine Yc ?_ | refine Yd ?_ | refine Ye ?_ | refine Yf ?_ | refine Yg ?_ | refine Yh ?_ | refine Yi rfl ?_ | refine Yj rfl ?_ | refine Yk rfl ?_ | refine Yl rfl ?_
  | (refine CallI.of (s_CheckPeriod g _ _ _) ?_)
  | (refine Cmp.mk (fun h => ?_) (fun h => ?_)) | (refine Rem.any (by omega) (fun r hr he => ?_)) | (refine Br.mk (fun h => ?_) (fun h => ?_))
  | (refine Ret.mk ?_))
 all_goals simp_all
end
end Go.Proofs.YtlnlcdnpgjhaaabGreatDoor.Co
/-
 Canonical periods, the plain law: the weeks' masks, and the state after each day.
-/
namespace Go.Proofs.YtlnlcdnpgjhaaabGreatDoor.Co
open Go Go.Evl
def wkD (x : Int) : Int := (x + 5) / 7
theorem wkD_def (x : Int) : wkD x = (x + 5) / 7 := rfl
section
variable (l : List Int)
def errD (k : Nat) : Int := if rng (l.getD k 0) 0 99999 ≠ 0 then 3 else if 0 < k ∧ l.getD k 0 ≤ l.getD (k - 1) 0 then 11 else 0
def chkDays : Int := if 512 < l.length then 5 else firstN (errD l) 0 (l.length - 0)
def maskN (w : Int) : Nat → Int
 | 0 => 0
 | k + 1 => maskN w k + if wkD (l.getD k 0) = w then 2 ^ ((l.getD k 0 + 5) % 7).toNat else 0
def maskW (w : Int) : Int := maskN l w l.length
end
theorem errD_zero {l : List Int} {k : Nat} : errD l k = 0 ↔ (0 ≤ l.getD k 0 ∧ l.getD k 0 ≤ 99999) ∧ (0 < k → l.getD (k - 1) 0 < l.getD k 0) := by
 have h := @rng_zero (l.getD k 0) 0 99999
 unfold errD
 split
 ·constructor
  ·intro h; cases h
  ·intro h; omega
 ·split
  ·constructor
   ·intro h; cases h
   ·intro h; omega
  ·constructor
   ·intro _; omega
   ·intro _; rfl
theorem chkDays_zero {l : List Int} : chkDays l = 0 ↔ l.length ≤ 512 ∧ ∀ i, i < l.length → errD l i = 0 := by
 unfold chkDays
 split
 ·constructor
  ·intro h; cases h
  ·intro h; omega
 ·rw [firstN_zero]
  constructor
  ·intro h; exact ⟨by omega, fun i hi => h i (Nat.zero_le _) (by omega)⟩
  ·intro h i _ hi; exact h.2 i (by omega)
section
variable {l : List Int} (hz : chkDays l = 0)
include hz
theorem day_range {k : Nat} (hk : k < l.length) : 0 ≤ l.getD k 0 ∧ l.getD k 0 ≤ 99999 := (errD_zero.1 ((chkDays_zero.1 hz).2 k hk)).1
theorem day_lt {i j : Nat} (hij : i < j) (hj : j < l.length) : l.getD i 0 < l.getD j 0 := by
 induction j with
 | zero => omega
 | succ j ih =>
  have h1 := (errD_zero.1 ((chkDays_zero.1 hz).2 (j + 1) hj)).2 (by omega)
  rw [Nat.add_sub_cancel] at h1
  by_cases e : i = j
  ·subst e; exact h1
  ·have := ih (by omega) (by omega); omega
omit hz in
theorem pow_le7 {a b : Nat} (h : a ≤ b) : (2 : Int) ^ a ≤ 2 ^ b := by
 have := Nat.pow_le_pow_right (show 0 < 2 by decide) h
 exact_mod_cast this
theorem mask_lt (w x : Int) (hx : wkD x = w ∧ 0 ≤ x) : ∀ k, k ≤ l.length → (∀ i, i < k → l.getD i 0 < x) → 0 ≤ maskN l w k ∧ maskN l w k < 2 ^ ((x + 5) % 7).toNat
 | 0, _, _ => ⟨Int.le_refl _, Int.pow_pos (by decide)⟩
 | k + 1, hk, hi => by
  obtain ⟨h1, h2⟩ := mask_lt w x hx k (by omega) (fun i hi' => hi i (by omega))
  simp only [maskN]
  split
  ·rename_i e
   have hd := day_range hz (show k < l.length by omega)
   have h3 := mask_lt w (l.getD k 0) ⟨e, hd.1⟩ k (by omega) (fun i hi' => day_lt hz hi' (by omega))
   have h4 := hi k (by omega)
   have e1 := wkD_def (l.getD k 0)
   have e2 := wkD_def x
   have h5 : ((l.getD k 0 + 5) % 7).toNat + 1 ≤ ((x + 5) % 7).toNat := by omega
   have h6 := pow_le7 h5
   rw [Int.pow_succ] at h6
   have h7 : (0 : Int) < 2 ^ ((l.getD k 0 + 5) % 7).toNat := Int.pow_pos (by decide)
   omega
  ·rw [Int.add_zero]; exact ⟨h1, h2⟩
theorem mask_bound (w : Int) (k : Nat) (hk : k ≤ l.length) : 0 ≤ maskN l w k ∧ maskN l w k < 128 := by
 induction k with
 | zero => simp [maskN]
 | succ k ih =>
  have ih := ih (by omega)
  simp only [maskN]
  split
  ·rename_i e
   have hd := day_range hz (show k < l.length by omega)
   have h3 := mask_lt hz w (l.getD k 0) ⟨e, hd.1⟩ k (by omega) (fun i hi' => day_lt hz hi' (by omega))
   have h6 := pow_le7 (show ((l.getD k 0 + 5) % 7).toNat ≤ 6 by omega)
   have h7 : (0 : Int) < 2 ^ ((l.getD k 0 + 5) % 7).toNat := Int.pow_pos (by decide)
   omega
  ·rw [Int.add_zero]; exact ih
end
def setA (w x : Int) : List (Int × Int) → List (Int × Int)
 | [] => [(w, x)]
 | (u, y) :: r => if w = u then (u, x) :: r else (u, y) :: setA w x r
def lookA (w : Int) : List (Int × Int) → Option Int
 | [] => none
 | (u, y) :: r => if w = u then some y else lookA w r
theorem lookA_set (w u x : Int) : ∀ m, lookA w (setA u x m) = if w = u then some x else lookA w m
 | [] => by simp [setA, lookA]
 | (v, y) :: r => by
  simp only [setA]
  split
  ·rename_i e; subst e
   simp only [lookA]
   split <;> rfl
  ·rename_i e
   simp only [lookA, lookA_set w u x r]
   split
   ·rename_i e2
    rw [if_neg (by omega)]
   ·rfl
def toE (m : List (Int × Int)) : List (D × V) := m.map fun p => (DI p.1, I p.2)
theorem idsM_toE : ∀ m, Evl.idsM (toE m) = []
 | [] => rfl
 | (_, _) :: r => by
  show [] ++ Evl.idsM (toE r) = []
  rw [idsM_toE r]; rfl
theorem findE_toE (w : Int) : ∀ m, findE (DI w) (toE m) = some ((lookA w m).map fun x => I x)
 | [] => rfl
 | (u, y) :: r => by
  show (match eqD (DI w) (DI u) with | some true => some (some (I y)) | some false => findE (DI w) (toE r) | none => none) = _
  have e : eqD (DI w) (DI u) = some (decide (w = u)) := by simp [eqD]
  rw [e]
  by_cases h : w = u
  ·simp [lookA, h]
  ·simp [lookA, h, findE_toE w r]
theorem setE_toE (w x : Int) : ∀ m, setE (DI w) (I x) (toE m) = some (toE (setA w x m))
 | [] => rfl
 | (u, y) :: r => by
  show (match eqD (DI w) (DI u) with | some true => some ((DI u, I x) :: toE r) | some false => (setE (DI w) (I x) (toE r)).map ((DI u, I y) :: ·) | none => none) = _
  have e : eqD (DI w) (DI u) = some (decide (w = u)) := by simp [eqD]
  rw [e]
  by_cases h : w = u
  ·simp [setA, h, toE]
  ·have := setE_toE w x r
   simp only [toE] at this
   simp [setA, h, this, toE]
theorem outV_toE (o : Option Int) : outV (.int .i64 0) false (o.map fun x => I x) = I (o.getD 0) := by cases o <;> rfl
section
variable (l : List Int)
def mapN : Nat → List (Int × Int)
 | 0 => []
 | k + 1 => setA (wkD (l.getD k 0)) (maskN l (wkD (l.getD k 0)) (k + 1)) (mapN k)
theorem mapN_look (w : Int) : ∀ k, (lookA w (mapN l k)).getD 0 = maskN l w k
 | 0 => rfl
 | k + 1 => by
  simp only [mapN, lookA_set]
  split
  ·rename_i e; rw [e]; rfl
  ·rename_i e
   rw [mapN_look w k]
   simp only [maskN]
   rw [if_neg (fun h => e h.symm), Int.add_zero]
def jn : Nat → List (Int × Int × Int) × (Int × Int × Int) × Int
 | 0 => ([], (l.getD 0 0, l.getD 0 0, maskW l (wkD (l.getD 0 0))), 1)
 | k + 1 =>
  if wkD (l.getD k 0) = wkD (l.getD (k + 1) 0) then ((jn k).1, ((jn k).2.1.1, l.getD (k + 1) 0, (jn k).2.1.2.2), (jn k).2.2)
  else if wkD (l.getD k 0) = wkD (l.getD (k + 1) 0) - 1 ∧ (jn k).2.1.2.2 = maskW l (wkD (l.getD (k + 1) 0)) ∧ (jn k).2.2 < 57 then ((jn k).1, ((jn k).2.1.1, l.getD (k + 1) 0, (jn k).2.1.2.2), (jn k).2.2 + 1)
  else ((jn k).1 ++ [(jn k).2.1], (l.getD (k + 1) 0, l.getD (k + 1) 0, maskW l (wkD (l.getD (k + 1) 0))), 1)
def outs : Nat → List (Int × Int × Int)
 | 0 => []
 | k + 1 => (jn l k).1 ++ [(jn l k).2.1]
def joinL : List (Int × Int × Int) := outs l l.length
theorem jn_length : ∀ k, (jn l k).1.length ≤ k
 | 0 => by simp [jn]
 | k + 1 => by
  have := jn_length k
  simp only [jn]
  split
  ·simp only; omega
  ·split
   ·simp only; omega
   ·simp; omega
theorem outs_length : ∀ k, (outs l k).length ≤ k
 | 0 => by simp [outs]
 | k + 1 => by have := jn_length l k; simp [outs]; omega
theorem jn_weeks : ∀ k, 1 ≤ (jn l k).2.2 ∧ (jn l k).2.2 ≤ 57
 | 0 => by simp [jn]
 | k + 1 => by
  have := jn_weeks k
  simp only [jn]
  split
  ·exact this
  ·split
   ·rename_i h; simp only; omega
   ·simp
end
end Go.Proofs.YtlnlcdnpgjhaaabGreatDoor.Co
/-
 Years, months, days: what the program's functions and the reference's give.
-/
namespace Go.Proofs.YtlnlcdnpgjhaaabGreatDoor.Co
open Go Go.Evl
section
variable {E : Oracle} (g : Good E)
include g
theorem s_weekday (day : Int) (h : 0 ≤ day ∧ day ≤ 1000000) : Fc E n_calendar_weekday [I day] (I ((day + 5) % 7)) := by
 refine g.fn code_calendar_weekday rfl ?_
 repeat' ((conv => whnf); first
 | refine Ya ?_ | refine Yb ?_ | refine Yc ?_ | refine Yd ?_ | refine Ye ?_ | refine Yf ?_ | refine Yg ?_ | refine Yh ?_ | refine Yi rfl ?_ | refine Yj rfl ?_ | refine Yk rfl ?_ | refine Yl rfl ?_
  | (refine Ret.mk rfl))
theorem r_Weekday (day : Int) (h : 0 ≤ day ∧ day ≤ 1000000) : Fc E n_ref01_Weekday [I day] (I ((day + 5) % 7)) := by
 refine g.fn code_ref01_Weekday rfl ?_
 repeat' ((conv => whnf); first
 | refine Ya ?_ | refine Yb ?_ | refine Yc ?_ | refine Yd ?_ | refine Ye ?_ | refine Yf ?_ | refine Yg ?_ | refine Yh ?_ | refine Yi rfl ?_ | refine Yj rfl ?_ | refine Yk rfl ?_ | refine Yl rfl ?_
  | (refine Ret.mk rfl))
end
end Go.Proofs.YtlnlcdnpgjhaaabGreatDoor.Co
/-
 Years, months, days: what the reference's functions give.
-/
namespace Go.Proofs.YtlnlcdnpgjhaaabGreatDoor.Co
open Go Go.Evl
end Go.Proofs.YtlnlcdnpgjhaaabGreatDoor.Co
/-
 Sundays, and zones with summer time.
-/
namespace Go.Proofs.YtlnlcdnpgjhaaabGreatDoor.Co
open Go Go.Evl
def cellC (c : Int × Int) : List D := [DI c.1, DI c.2]
theorem flatC_length (l : List (Int × Int)) : (l.flatMap cellC).length = 2 * l.length := by
 induction l with
 | nil => rfl
 | cons c r ih => simp [List.flatMap_cons, cellC] at ih ⊢; omega
theorem winC (l : List (Int × Int)) (k : Nat) (h : k < l.length) : win (l.flatMap cellC) (k * 2) 2 = cellC (l[k]) := by
 induction l generalizing k with
 | nil => simp at h
 | cons c r ih =>
  cases k with
  | zero => simp [win, cellC, List.flatMap_cons]
  | succ k =>
   have := ih k (by simpa using h)
   simp only [win, List.flatMap_cons] at this ⊢
   rw [show (k + 1) * 2 = 2 + k * 2 by omega, ← List.drop_drop]
   simpa [cellC] using this
theorem PickW.chg {l : List (Int × Int)} {k : Nat} {K : List D → Prop} (h : k < l.length) (hk : K (cellC (l[k]))) : PickW (l.flatMap cellC) ((k : Int).toNat * 2) 2 K := by
 have := flatC_length l
 refine ⟨by rw [show (k : Int).toNat = k by simp]; omega, ?_⟩
 rw [show (k : Int).toNat = k by simp, winC l k h]
 exact hk
end Go.Proofs.YtlnlcdnpgjhaaabGreatDoor.Co
/-
 Zones: errors, offsets, local moments.
-/
namespace Go.Proofs.YtlnlcdnpgjhaaabGreatDoor.Co
open Go Go.Evl
end Go.Proofs.YtlnlcdnpgjhaaabGreatDoor.Co
/-
 Lists in ascending order; the universal moments of a local one, as lists.
-/
namespace Go.Proofs.YtlnlcdnpgjhaaabGreatDoor.Co
open Go Go.Evl
theorem strict_ext : ∀ {a b : List Int}, a.Pairwise (· < ·) → b.Pairwise (· < ·) → (∀ x, x ∈ a ↔ x ∈ b) → a = b
 | [], [], _, _, _ => rfl
 | [], y :: s, _, _, h => absurd ((h y).2 (List.mem_cons_self ..)) (by simp)
 | x :: r, [], _, _, h => absurd ((h x).1 (List.mem_cons_self ..)) (by simp)
 | x :: r, y :: s, ha, hb, h => by
  rw [List.pairwise_cons] at ha hb
  have e : x = y := by
   have h1 := (h x).1 (List.mem_cons_self ..)
   have h2 := (h y).2 (List.mem_cons_self ..)
   rcases List.mem_cons.1 h1 with h1 | h1
   ·exact h1
   ·rcases List.mem_cons.1 h2 with h2 | h2
    ·exact h2.symm
    ·have := ha.1 _ h2; have := hb.1 _ h1; omega
  subst e
  rw [strict_ext ha.2 hb.2 fun z => ?_]
  have hz := h z
  simp only [List.mem_cons] at hz
  constructor
  ·intro k
   rcases hz.1 (.inr k) with e | e
   ·subst e; exact absurd (ha.1 _ k) (by omega)
   ·exact e
  ·intro k
   rcases hz.2 (.inr k) with e | e
   ·subst e; exact absurd (hb.1 _ k) (by omega)
   ·exact e
end Go.Proofs.YtlnlcdnpgjhaaabGreatDoor.Co
/-
 Permutations: what the program's Draw and the reference's give; equal lists.
-/
namespace Go.Proofs.YtlnlcdnpgjhaaabGreatDoor.Co
open Go Go.Evl
section
variable {E : Oracle} (g : Good E)
include g
theorem r_SameInts (a b : List Int) (ha : a.length ≤ 140737488355328) : Fc E n_ref01_SameInts [LI a, LI b] (B (decide (a = b))) := by
 refine g.fn code_ref01_SameInts rfl ?_
 by_cases hl : a.length = b.length
 ·repeat' ((conv => whnf); first
 | refine Ya ?_ | refine Yb ?_ | refine Yc ?_ | refine Yd ?_ | refine Ye ?_ | refine Yf ?_ | refine Yg ?_ | refine Yh ?_ | refine Yi rfl ?_ | refine Yj rfl ?_ | refine Yk rfl ?_ | refine Yl rfl ?_)
  refine LoopW.upP g (fun k => [(0, LI a), (1, LI b), (5, I k)]) (fun _ => []) (fun k => a.take k = b.take k) a.length (fun k hk hp ih => ?_) 0 (Nat.zero_le _) (by simp)
  by_cases hlt : k < a.length
  ·have hs : a.take (k + 1) = b.take (k + 1) ↔ a.getD k 0 = b.getD k 0 := by
    have hlb : k < b.length := by omega
    have e1 : a.take (k + 1) = b.take k ++ [a.getD k 0] := by rw [List.take_add_one, hp]; simp [List.getD, hlt]
    have e2 : b.take (k + 1) = b.take k ++ [b.getD k 0] := by rw [List.take_add_one]; simp [List.getD, hlb]
    rw [e1, e2]
    simp
   repeat' ((conv => whnf); first
   | refine Ya ?_ | refine Yb ?_ | refine Yc ?_ | refine Yd ?_ | refine Ye ?_ | refine Yf ?_ | refine Yg ?_ | refine Yh ?_ | refine Yi rfl ?_ | refine Yj rfl ?_ | refine Yk rfl ?_ | refine Yl rfl ?_
    | (refine Pick.int (by omega) ?_)
    | (refine Cmp.mk (fun h => ?_) (fun h => ?_))
    | (refine LoopW.to (ih hlt ?_) ?_ rfl)
    | (refine Ret.mk ?_))
   ·exact hs.2 (by simpa using h)
   ·simp
   ·have : ¬ a = b := fun e => by subst e; exact h rfl
    simp [this]
  ·have hk' : k = a.length := by omega
   subst hk'
   repeat' ((conv => whnf); first
   | refine Ya ?_ | refine Yb ?_ | refine Yc ?_ | refine Yd ?_ | refine Ye ?_ | refine Yf ?_ | refine Yg ?_ | refine Yh ?_ | refine Yi rfl ?_ | refine Yj rfl ?_ | refine Yk rfl ?_ | refine Yl rfl ?_
    | (refine Ret.mk ?_))
   rw [List.take_of_length_le (Nat.le_refl _), List.take_of_length_le (by omega)] at hp
   simp [hp]
 ·have : ¬ a = b := fun e => hl (by rw [e])
  repeat' ((conv => whnf); first
  | refine Ya ?_ | refine Yb ?_ | refine Yc ?_ | refine Yd ?_ | refine Ye ?_ | refine Yf ?_ | refine Yg ?_ | refine Yh ?_ | refine Yi rfl ?_ | refine Yj rfl ?_ | refine Yk rfl ?_ | refine Yl rfl ?_
   | (refine Ret.mk ?_))
  simp [this]
end
end Go.Proofs.YtlnlcdnpgjhaaabGreatDoor.Co
/-
 Universal: the program's and the reference's.
-/
namespace Go.Proofs.YtlnlcdnpgjhaaabGreatDoor.Co
open Go Go.Evl
theorem Pick.at {l : List Int} {n : Nat} {K : D → Prop} (p : Nat) (hp : n = p) (h : p < l.length) (hk : K (DI (l.getD p 0))) : Pick (l.map DI) n K := by
 subst hp
 refine ⟨⟨_, ?_, hk⟩⟩
 simp [List.getD, h]
end Go.Proofs.YtlnlcdnpgjhaaabGreatDoor.Co
/-
 Join: the program's and the reference's.
-/
namespace Go.Proofs.YtlnlcdnpgjhaaabGreatDoor.Co
open Go Go.Evl
def cellP (p : Int × Int × Int) : List D := [DI p.1, DI p.2.1, DI p.2.2]
theorem cellP_len (p : Int × Int × Int) : (cellP p).length = 3 := rfl
abbrev LP (l : List (Int × Int × Int)) : V := .d (.list l.length (l.flatMap cellP))
theorem or_bit : ∀ a : Fin 128, ∀ w : Fin 7, (a.val : Int) < 2 ^ w.val → IntKind.i64.wrap ((BitVec.ofInt IntKind.i64.bits (a.val : Int) ||| BitVec.ofInt IntKind.i64.bits (1 * 2 ^ (min ((w.val : Int)).toNat IntKind.i64.bits))).toNat) = (a.val : Int) + 2 ^ w.val := by decide +kernel
theorem or_bit' (a w : Int) (ha : 0 ≤ a ∧ a < 2 ^ w.toNat) (hw : 0 ≤ w ∧ w < 7) : IntKind.i64.wrap ((BitVec.ofInt IntKind.i64.bits a ||| BitVec.ofInt IntKind.i64.bits (1 * 2 ^ (min w.toNat IntKind.i64.bits))).toNat) = a + 2 ^ w.toNat := by
 have h7 := pow_le7 (show w.toNat ≤ 6 by omega)
 have := or_bit ⟨a.toNat, by omega⟩ ⟨w.toNat, by omega⟩ (by simpa [show ((a.toNat : Nat) : Int) = a by omega] using ha.2)
 simpa [show ((a.toNat : Nat) : Int) = a by omega, show ((w.toNat : Nat) : Int) = w by omega] using this
theorem pow_small (w : Int) (hw : 0 ≤ w ∧ w < 7) : -9223372036854775808 ≤ 1 * (2 : Int) ^ (min w.toNat IntKind.i64.bits) ∧ 1 * (2 : Int) ^ (min w.toNat IntKind.i64.bits) ≤ 9223372036854775807 := by
 have h1 := pow_le7 (show min w.toNat IntKind.i64.bits ≤ 6 by omega)
 have h2 : (0 : Int) < 2 ^ (min w.toNat IntKind.i64.bits) := Int.pow_pos (by decide)
 omega
section
variable {E : Oracle} (g : Good E)
include g
theorem s_weekOf (x : Int) (h : 0 ≤ x ∧ x ≤ 1000000) : Fc E n_calendar_weekOf [I x] (I (wkD x)) := by
 refine g.fn code_calendar_weekOf rfl ?_
 repeat' ((conv => whnf); first
 | refine Ya ?_ | refine Yb ?_ | refine Yc ?_ | refine Yd ?_ | refine Ye ?_ | refine Yf ?_ | refine Yg ?_ | refine Yh ?_ | refine Yi rfl ?_ | refine Yj rfl ?_ | refine Yk rfl ?_ | refine Yl rfl ?_
  | (refine Ret.mk rfl))
theorem s_Clip (l : List (Int × Int × Int)) : Fc E n_slices_Clip_Lapi_Period_api_Period [LP l] (LP l) := by
 refine g.fn code_slices_Clip_Lapi_Period_api_Period rfl ?_
 have hf := flatR_length cellP 3 cellP_len l
 repeat' ((conv => whnf); first
 | refine Ya ?_ | refine Yb ?_ | refine Yc ?_ | refine Yd ?_ | refine Ye ?_ | refine Yf ?_ | refine Yg ?_ | refine Yh ?_ | refine Yi rfl ?_ | refine Yj rfl ?_ | refine Yk rfl ?_ | refine Yl rfl ?_
  | (refine Bounds.mk (by omega) ?_)
  | (refine Ret.mk ?_))
 have hw : win (l.flatMap cellP) (0 * 3) ((l.length - 0) * 3) = l.flatMap cellP := by
  simp only [win, Nat.zero_mul, List.drop_zero, Nat.sub_zero, ← hf, List.take_length]
 exact congrArg (fun z => V.d (.list l.length z)) hw
set_option maxHeartbeats 4000000 in
theorem s_Join_ok (l : List Int) (hz : chkDays l = 0) : Fc E n_calendar_Join [LI l] (.tup [LP (joinL l), I 0]) := by
 refine g.fn code_calendar_Join rfl ?_
 have hlen := (chkDays_zero.1 hz).1
 repeat' ((conv => whnf); first
 | refine Ya ?_ | refine Yb ?_ | refine Yc ?_ | refine Yd ?_ | refine Ye ?_ | refine Yf ?_ | refine Yg ?_ | refine Yh ?_ | refine Yi rfl ?_ | refine Yj rfl ?_ | refine Yk rfl ?_ | refine Yl rfl ?_)
 refine LoopW.to (LoopW.up g (fun k => [(0, LI l), (19, LI l), (20, I l.length), (21, I k)]) (fun _ => []) l.length (fun k hk ih => ?_) 0 (Nat.zero_le _)) rfl rfl
 by_cases hlt : k < l.length
 ·have ez := errD_zero.1 ((chkDays_zero.1 hz).2 k hlt)
  have cd := s_checkDay g (l.getD k 0)
  rw [rng_zero.2 ez.1] at cd
  cases k with
  | zero =>
   repeat' ((conv => whnf); first
   | refine Ya ?_ | refine Yb ?_ | refine Yc ?_ | refine Yd ?_ | refine Ye ?_ | refine Yf ?_ | refine Yg ?_ | refine Yh ?_ | refine Yi rfl ?_ | refine Yj rfl ?_ | refine Yk rfl ?_ | refine Yl rfl ?_
    | (apply CallI.of; assumption)
    | (refine Pick.at 0 (by omega) (by omega) ?_)
    | (refine CallI.of (s_when g _ _) ?_)
    | (refine CallI.of (s_first2 g _ _) ?_)
    | (refine LoopW.to (ih hlt) rfl rfl))
  | succ j =>
   rw [Nat.add_sub_cancel] at ez
   repeat' ((conv => whnf); first
   | refine Ya ?_ | refine Yb ?_ | refine Yc ?_ | refine Yd ?_ | refine Ye ?_ | refine Yf ?_ | refine Yg ?_ | refine Yh ?_ | refine Yi rfl ?_ | refine Yj rfl ?_ | refine Yk rfl ?_ | refine Yl rfl ?_
    | (apply CallI.of; assumption)
    | (refine Pick.at (j + 1) (by omega) (by omega) ?_)
    | (refine Pick.at j (by omega) (by omega) ?_)
    | (refine CallI.of (s_when g _ _) ?_)
    | (refine CallI.of (s_first2 g _ _) ?_)
    | (refine LoopW.to (ih hlt) rfl rfl))
 ·repeat' ((conv => whnf); first
 | refine Ya ?_ | refine Yb ?_ | refine Yc ?_ | refine Yd ?_ | refine Ye ?_ | refine Yf ?_ | refine Yg ?_ | refine Yh ?_ | refine Yi rfl ?_ | refine Yj rfl ?_ | refine Yk rfl ?_ | refine Yl rfl ?_)
  refine LoopW.to (LoopW.up g (fun k => [(0, LI l), (7, .mp ⟨0, 47, 0⟩), (48, LI l), (49, I l.length), (50, I k)]) (fun k => [(⟨0, 47, 0⟩, .map (toE (mapN l k)))]) l.length (fun k hk ih => ?_) 0 (Nat.zero_le _)) rfl rfl
  by_cases hlt : k < l.length
  ·have hd := day_range hz hlt
   have cw := s_weekOf g (l.getD k 0) (by omega)
   have cwd := s_weekday g (l.getD k 0) (by omega)
   have hps := pow_small ((l.getD k 0 + 5) % 7) (by omega)
   have hml := mask_lt hz (wkD (l.getD k 0)) (l.getD k 0) ⟨rfl, hd.1⟩ k (by omega) (fun i hi => day_lt hz hi hlt)
   have hor := or_bit' (maskN l (wkD (l.getD k 0)) k) ((l.getD k 0 + 5) % 7) hml (by omega)
   have hm : maskN l (wkD (l.getD k 0)) (k + 1) = maskN l (wkD (l.getD k 0)) k + 2 ^ ((l.getD k 0 + 5) % 7).toNat := by
    show _ + (if wkD (l.getD k 0) = wkD (l.getD k 0) then _ else _) = _
    rw [if_pos rfl]
   have hmk : mapN l (k + 1) = setA (wkD (l.getD k 0)) (maskN l (wkD (l.getD k 0)) (k + 1)) (mapN l k) := rfl
   repeat' ((conv => whnf); first
   | refine Ya ?_ | refine Yb ?_ | refine Yc ?_ | refine Yd ?_ | refine Ye ?_ | refine Yf ?_ | refine Yg ?_ | refine Yh ?_ | refine Yi rfl ?_ | refine Yj rfl ?_ | refine Yk rfl ?_ | refine Yl rfl ?_
    | (apply CallI.of; assumption)
    | (refine Pick.at k (by omega) (by omega) ?_)
    | (refine Find.mk ⟨_, findE_toE _ _, ?_⟩; rw [outV_toE, mapN_look])
    | (refine Wr.keep hps ?_)
    | (refine SetW.mk ⟨_, setE_toE _ _ _, ?_⟩)
    | (refine LoopW.to (ih hlt) rfl ?_))
   rw [hmk, hm, ← hor]
  ·have hk' : k = l.length := by omega
   subst hk'
   clear ih hk hlt
   repeat' ((conv => whnf); first
   | refine Ya ?_ | refine Yb ?_ | refine Yc ?_ | refine Yd ?_ | refine Ye ?_ | refine Yf ?_ | refine Yg ?_ | refine Yh ?_ | refine Yi rfl ?_ | refine Yj rfl ?_ | refine Yk rfl ?_ | refine Yl rfl ?_)
   refine LoopW.to (LoopW.by g (fun i => i ≤ l.length ∧ (i < l.length → jn l i = (outs l i, (l.getD i 0, l.getD i 0, maskW l (wkD (l.getD i 0))), 1)))
    (fun i => [(0, LI l), (7, .mp ⟨0, 47, 0⟩), (10, .ref ⟨0, 10, 0⟩ 0 (outs l i).length (outs l i).length), (11, I i)])
    (fun i => [(⟨0, 47, 0⟩, .map (toE (mapN l l.length))), (⟨0, 10, 0⟩, .row false ty_api_Period 3 (outs l i).length ((outs l i).flatMap cellP))]) (fun i => l.length - i) (fun i hi ih => ?_) 0 ⟨Nat.zero_le _, fun _ => rfl⟩) rfl rfl
   by_cases hlt : i < l.length
   ·have hd := day_range hz hlt
    have cw := s_weekOf g (l.getD i 0) (by omega)
    have hjn := hi.2 hlt
    have hol := outs_length l i
    repeat' ((conv => whnf); first
    | refine Ya ?_ | refine Yb ?_ | refine Yc ?_ | refine Yd ?_ | refine Ye ?_ | refine Yf ?_ | refine Yg ?_ | refine Yh ?_ | refine Yi rfl ?_ | refine Yj rfl ?_ | refine Yk rfl ?_ | refine Yl rfl ?_
     | (apply CallI.of; assumption)
     | (refine Pick.at i (by omega) (by omega) ?_)
     | (refine Find.mk ⟨_, findE_toE _ _, ?_⟩; rw [outV_toE, mapN_look]))
    refine LoopW.step g.lim ?_
    repeat' ((conv => whnf); first
    | refine Ya ?_ | refine Yb ?_ | refine Yc ?_ | refine Yd ?_ | refine Ye ?_ | refine Yf ?_ | refine Yg ?_ | refine Yh ?_ | refine Yi rfl ?_ | refine Yj rfl ?_ | refine Yk rfl ?_ | refine Yl rfl ?_
     | (apply CallI.of; assumption)
     | (refine Pick.at i (by omega) (by omega) ?_)
     | (refine Cmp.tt rfl ?_))
    refine LoopW.to (LoopW.by g (fun e => i ≤ e ∧ e < l.length ∧ (jn l e).1 = outs l i ∧ (jn l e).2.2 = wkD (l.getD e 0) - wkD (l.getD i 0) + 1)
     (fun e => [(0, LI l), (7, .mp ⟨0, 47, 0⟩), (10, .ref ⟨0, 10, 0⟩ 0 (outs l i).length (outs l i).length), (11, I (e + 1 : Nat)), (12, I (wkD (l.getD i 0))), (13, .ptr ⟨0, 13, 0⟩ 0 0), (14, I (wkD (l.getD e 0)))])
     (fun e => [(⟨0, 47, 0⟩, .map (toE (mapN l l.length))), (⟨0, 10, 0⟩, .row false ty_api_Period 3 (outs l i).length ((outs l i).flatMap cellP)), (⟨0, 13, 0⟩, .cells ty_api_Period [I (jn l e).2.1.1, I (jn l e).2.1.2.1, I (jn l e).2.1.2.2])]) (fun e => l.length - e) (fun e he ih2 => ?_) i ⟨Nat.le_refl _, hlt, by rw [hjn], by rw [hjn]; simp⟩) ?_ ?_
    ·obtain ⟨h1, h2, h3, h4⟩ := he
     have ho : outs l (e + 1) = outs l i ++ [(jn l e).2.1] := by show (jn l e).1 ++ _ = _; rw [h3]
     have hde := day_range hz h2
     have hjl := jn_length l e
     have hfin : ∀ {K : Ex → Env → Mem → Prop}, (e + 1 < l.length → jn l (e + 1) = ((jn l e).1 ++ [(jn l e).2.1], (l.getD (e + 1) 0, l.getD (e + 1) 0, maskW l (wkD (l.getD (e + 1) 0))), 1)) → (e + 1 ≤ l.length ∧ (e + 1 < l.length → jn l (e + 1) = (outs l (e + 1), (l.getD (e + 1) 0, l.getD (e + 1) 0, maskW l (wkD (l.getD (e + 1) 0))), 1))) := fun h => ⟨by omega, fun hh => by rw [h hh]; rfl⟩
     by_cases hlt2 : e + 1 < l.length
     ·have hd2 := day_range hz hlt2
      have cw2 := s_weekOf g (l.getD (e + 1) 0) (by omega)
      have hjw := jn_weeks l e
      have hwr := wkD_def (l.getD e 0)
      have hwr2 := wkD_def (l.getD (e + 1) 0)
      have hwr3 := wkD_def (l.getD i 0)
      have hjn2 : jn l (e + 1) = if wkD (l.getD e 0) = wkD (l.getD (e + 1) 0) then ((jn l e).1, ((jn l e).2.1.1, l.getD (e + 1) 0, (jn l e).2.1.2.2), (jn l e).2.2)
       else if wkD (l.getD e 0) = wkD (l.getD (e + 1) 0) - 1 ∧ (jn l e).2.1.2.2 = maskW l (wkD (l.getD (e + 1) 0)) ∧ (jn l e).2.2 < 57 then ((jn l e).1, ((jn l e).2.1.1, l.getD (e + 1) 0, (jn l e).2.1.2.2), (jn l e).2.2 + 1)
       else ((jn l e).1 ++ [(jn l e).2.1], (l.getD (e + 1) 0, l.getD (e + 1) 0, maskW l (wkD (l.getD (e + 1) 0))), 1) := rfl
      have ih3 := ih2 (e + 1)
      by_cases c1 : wkD (l.getD e 0) = wkD (l.getD (e + 1) 0)
      ·rw [if_pos c1] at hjn2
       simp only [hjn2] at ih3
       repeat' ((conv => whnf); first
       | refine Ya ?_ | refine Yb ?_ | refine Yc ?_ | refine Yd ?_ | refine Ye ?_ | refine Yf ?_ | refine Yg ?_ | refine Yh ?_ | refine Yi rfl ?_ | refine Yj rfl ?_ | refine Yk rfl ?_ | refine Yl rfl ?_
        | (apply CallI.of; assumption)
        | (refine Pick.at (e + 1) (by omega) (by omega) ?_)
        | (refine LoopW.to (ih3 ⟨by omega, by omega, h3, by omega⟩ (by omega)) ?_ ?_))
       ·rw [c1]; rfl
       ·rfl
      ·rw [if_neg c1] at hjn2
       by_cases c2 : wkD (l.getD e 0) = wkD (l.getD (e + 1) 0) - 1 ∧ (jn l e).2.1.2.2 = maskW l (wkD (l.getD (e + 1) 0)) ∧ (jn l e).2.2 < 57
       ·rw [if_pos c2] at hjn2
        simp only [hjn2] at ih3
        repeat' ((conv => whnf); first
        | refine Ya ?_ | refine Yb ?_ | refine Yc ?_ | refine Yd ?_ | refine Ye ?_ | refine Yf ?_ | refine Yg ?_ | refine Yh ?_ | refine Yi rfl ?_ | refine Yj rfl ?_ | refine Yk rfl ?_ | refine Yl rfl ?_
         | (apply CallI.of; assumption)
         | (refine Pick.at (e + 1) (by omega) (by omega) ?_)
         | (refine Find.mk ⟨_, findE_toE _ _, ?_⟩; rw [outV_toE, mapN_look])
         | (refine Cmp.tt c2.2.1.symm ?_)
         | (refine LoopW.to (ih3 ⟨by omega, by omega, h3, by omega⟩ (by omega)) ?_ ?_))
        all_goals rfl
       ·have c3 : ¬ (wkD (l.getD e 0) = wkD (l.getD (e + 1) 0) - 1 ∧ (jn l e).2.1.2.2 = maskN l (wkD (l.getD (e + 1) 0)) l.length ∧ (jn l e).2.2 < 57) := c2
        rw [if_neg c2] at hjn2
        have hf := hfin (K := fun _ _ _ => True) (fun _ => hjn2)
        repeat' ((conv => whnf); first
        | refine Ya ?_ | refine Yb ?_ | refine Yc ?_ | refine Yd ?_ | refine Ye ?_ | refine Yf ?_ | refine Yg ?_ | refine Yh ?_ | refine Yi rfl ?_ | refine Yj rfl ?_ | refine Yk rfl ?_ | refine Yl rfl ?_
         | (apply CallI.of; assumption)
         | (refine Pick.at (e + 1) (by omega) (by omega) ?_)
         | (refine Find.mk ⟨_, findE_toE _ _, ?_⟩; rw [outV_toE, mapN_look])
         | (refine Need.mk (by simp; omega) ?_)
         | (refine Cmp.mk (fun h => ?_) (fun h => ?_)) | (refine Rem.any (by omega) (fun r hr he => ?_)) | (refine Br.mk (fun h => ?_) (fun h => ?_))
         | (refine LoopW.to (ih (e + 1) hf (by omega)) ?_ ?_)
         | (simp only [Evl.idsAll, Evl.idsO, idsM_toE, List.nil_append])
         | (exfalso; omega))
        all_goals first
         | (simp only [ho, List.length_append, List.length_singleton]; rfl)
         | (simp [ho, cellP, List.flatMap_append]; done)
     ·have hf := hfin (K := fun _ _ _ => True) (fun h => absurd h hlt2)
      repeat' ((conv => whnf); first
      | refine Ya ?_ | refine Yb ?_ | refine Yc ?_ | refine Yd ?_ | refine Ye ?_ | refine Yf ?_ | refine Yg ?_ | refine Yh ?_ | refine Yi rfl ?_ | refine Yj rfl ?_ | refine Yk rfl ?_ | refine Yl rfl ?_
       | (apply CallI.of; assumption)
       | (refine Need.mk (by simp; omega) ?_)
       | (refine LoopW.to (ih (e + 1) hf (by omega)) ?_ ?_)
       | (simp only [Evl.idsAll, Evl.idsO, idsM_toE, List.nil_append]))
      all_goals first
       | (simp only [ho, List.length_append, List.length_singleton]; rfl)
       | (simp [ho, cellP, List.flatMap_append]; done)
    ·rfl
    ·rw [hjn]; rfl
   ·have hi' : i = l.length := by omega
    have cl := s_Clip g (outs l l.length)
    subst hi'
    repeat' ((conv => whnf); first
    | refine Ya ?_ | refine Yb ?_ | refine Yc ?_ | refine Yd ?_ | refine Ye ?_ | refine Yf ?_ | refine Yg ?_ | refine Yh ?_ | refine Yi rfl ?_ | refine Yj rfl ?_ | refine Yk rfl ?_ | refine Yl rfl ?_
     | (refine CallI.of (r := LP (outs l l.length)) (by rw [if_pos ⟨rfl, rfl⟩]; exact cl) ?_)
     | (refine Ret.mk rfl))
end
end Go.Proofs.YtlnlcdnpgjhaaabGreatDoor.Co
/-
 The days of a period: what the program's functions give.
-/
namespace Go.Proofs.YtlnlcdnpgjhaaabGreatDoor.Co
open Go Go.Evl
def daysP (f d : Int) : Nat → List Int
 | 0 => []
 | k + 1 => daysP f d k ++ (if inM d ((f + k + 5) % 7) then [f + k] else [])
theorem daysP_length (f d : Int) : ∀ k : Nat, (daysP f d k).length ≤ k
 | 0 => Nat.le_refl _
 | k + 1 => by
  have := daysP_length f d k
  simp only [daysP, List.length_append]
  split <;> simp <;> omega
def rngAsg : C := .reg false [⟨some 6, none, .mv (.t 8)⟩] [8]
def rngBdy : C := .block 1 (.seq (.reg false [
⟨some 9, none, .load none (.t 3)⟩,
⟨some 10, none, .mv (.t 6)⟩,
⟨some 11, none, .call true true (.t 9) [.t 10]⟩] [3, 9, 10])
(.cond (.t 11) (.reg false [
⟨some 12, none, .load none (.t 5)⟩,
⟨some 13, none, .mv (.t 6)⟩,
⟨some 14, none, .mkList 1 1 [.t 13]⟩,
⟨some 15, none, .append ⟨false, ty_int, 1, 8⟩ (.t 12) (.t 14)⟩,
⟨none, none, .store 1 (.t 5) (.t 15)⟩] [5, 6, 12, 13, 14, 15])
 .skip))
section
variable {E : Oracle} (g : Good E)
include g
theorem s_DaysOf_ok (f t d : Int) (h : chkPer f t d = 0) : Fc E n_calendar_DaysOf [Per f t d] (.tup [LI (daysP f d (t - f + 1).toNat), I 0]) := by
 refine g.fn code_calendar_DaysOf rfl ?_
 have hc := s_CheckPeriod g f t d
 rw [h] at hc
 have hb := chkPer_zero.1 h
 repeat' ((conv => whnf); first
 | refine Ya ?_ | refine Yb ?_ | refine Yc ?_ | refine Yd ?_ | refine Ye ?_ | refine Yf ?_ | refine Yg ?_ | refine Yh ?_ | refine Yi rfl ?_ | refine Yj rfl ?_ | refine Yk rfl ?_ | refine Yl rfl ?_
  | (refine CallI.of hc ?_)
  | (refine CallS.of (In.enter g.lim rfl code_calendar_daysOf ?_))
  | (refine ⟨(.fn n_calendar_daysOf_1 [] [.ptr ⟨0, 11, 0⟩ 0 0], [(⟨0, 1, 0⟩, .cells ty_api_Period [I f, I t, I d]), (⟨0, 11, 0⟩, .cells ty_api_Period [I f, I t, I d])]), rfl, ?_⟩)
  | (refine In.enter g.lim rfl code_calendar_collected_int ?_)
  | (refine In.enter g.lim rfl code_calendar_daysOf_1 ?_))
 refine LoopW.to (LoopW.up g (fun k => [(0, .yld ⟨1, 18, 0⟩), (1, .ptr ⟨0, 11, 0⟩ 0 0), (3, I (f + k))]) (fun k => [(⟨0, 1, 0⟩, .cells ty_api_Period [I f, I t, I d]), (⟨0, 11, 0⟩, .cells ty_api_Period [I f, I t, I d]),
  (⟨1, 3, 0⟩, .cells ty_func_int_bool [.fn n_calendar_DaysOf_1 [] []]), (⟨1, 4, 0⟩, .row false ty_int 1 0 []), (⟨1, 5, 0⟩, .row false ty_int 1 (daysP f d k).length ((daysP f d k).map DI)), (⟨1, 5, 1⟩, .cells ty_Lint [.ref ⟨1, 5, 0⟩ 0 (daysP f d k).length (daysP f d k).length]),
  (⟨1, 18, 0⟩, .loop [(3, .ptr ⟨1, 3, 0⟩ 0 0), (4, .ref ⟨1, 4, 0⟩ 0 0 0), (5, .ptr ⟨1, 5, 1⟩ 0 0), (7, .fn n_calendar_daysOf_1 [] [.ptr ⟨0, 11, 0⟩ 0 0])] [8] rngAsg rngBdy 1 false false none)]) (t - f + 1).toNat (fun k hk ih => ?_) 0 (Nat.zero_le _)) (by simp) rfl
 have hlen := daysP_length f d k
 by_cases hlt : k < (t - f + 1).toNat
 ·have hin := s_inMask g d ((f + k + 5) % 7) (by omega) (by omega)
  by_cases hc : inM d ((f + k + 5) % 7) = true
  ·rw [hc] at hin
   repeat' ((conv => whnf); first
   | refine Ya ?_ | refine Yb ?_ | refine Yc ?_ | refine Yd ?_ | refine Ye ?_ | refine Yf ?_ | refine Yg ?_ | refine Yh ?_ | refine Yi rfl ?_ | refine Yj rfl ?_ | refine Yk rfl ?_ | refine Yl rfl ?_
    | (refine CallI.of (s_weekday g _ (by omega)) ?_)
    | (refine CallI.of hin ?_)
    | (refine Rnd.enter g.lim ?_)
    | (refine In.enter g.lim rfl code_calendar_DaysOf_1 ?_)
    | (refine LoopW.to (ih hlt) ?_ ?_))
   ·simp; omega
   ·simp [daysP, hc]
  ·rw [Bool.not_eq_true] at hc
   rw [hc] at hin
   repeat' ((conv => whnf); first
   | refine Ya ?_ | refine Yb ?_ | refine Yc ?_ | refine Yd ?_ | refine Ye ?_ | refine Yf ?_ | refine Yg ?_ | refine Yh ?_ | refine Yi rfl ?_ | refine Yj rfl ?_ | refine Yk rfl ?_ | refine Yl rfl ?_
    | (refine CallI.of (s_weekday g _ (by omega)) ?_)
    | (refine CallI.of hin ?_)
    | (refine LoopW.to (ih hlt) ?_ ?_))
   ·simp; omega
   ·simp [daysP, hc]
 ·have hk' : k = (t - f + 1).toNat := by omega
  repeat' ((conv => whnf); first
  | refine Ya ?_ | refine Yb ?_ | refine Yc ?_ | refine Yd ?_ | refine Ye ?_ | refine Yf ?_ | refine Yg ?_ | refine Yh ?_ | refine Yi rfl ?_ | refine Yj rfl ?_ | refine Yk rfl ?_ | refine Yl rfl ?_
   | (refine Ret.mk ?_))
  simp [hk']
end
end Go.Proofs.YtlnlcdnpgjhaaabGreatDoor.Co
/-
 The days of a period, the common days of two: the program's and the reference's.
-/
namespace Go.Proofs.YtlnlcdnpgjhaaabGreatDoor.Co
open Go Go.Evl
def hasB (f t d day : Int) : Bool := decide (f ≤ day) && (decide (day ≤ t) && inM d ((day + 5) % 7))
section
variable {E : Oracle} (g : Good E)
include g
theorem r_Has (f t d day : Int) (hd : 0 ≤ d ∧ d ≤ 127) (h : 0 ≤ day ∧ day ≤ 1000000) : Fc E n_ref01_Has [Per f t d, I day] (B (hasB f t d day)) := by
 refine g.fn code_ref01_Has rfl ?_
 have hin := r_InMask g d ((day + 5) % 7) hd (by omega)
 unfold hasB
 generalize inM d ((day + 5) % 7) = b at *
 by_cases h1 : f ≤ day
 ·by_cases h2 : day ≤ t
  all_goals repeat' ((conv => whnf); first
  | refine Ya ?_ | refine Yb ?_ | refine Yc ?_ | refine Yd ?_ | refine Ye ?_ | refine Yf ?_ | refine Yg ?_ | refine Yh ?_ | refine Yi rfl ?_ | refine Yj rfl ?_ | refine Yk rfl ?_ | refine Yl rfl ?_
   | (refine CallI.of (r_Weekday g _ h) ?_)
   | (refine CallI.of hin ?_)
   | (refine Ret.mk ?_))
  all_goals simp [h1, h2]
 ·repeat' ((conv => whnf); first
 | refine Ya ?_ | refine Yb ?_ | refine Yc ?_ | refine Yd ?_ | refine Ye ?_ | refine Yf ?_ | refine Yg ?_ | refine Yh ?_ | refine Yi rfl ?_ | refine Yj rfl ?_ | refine Yk rfl ?_ | refine Yl rfl ?_
   | (refine Ret.mk ?_))
  simp [h1]
theorem r_DaysOf (f t d : Int) (h : chkPer f t d = 0) : Fc E n_ref01_DaysOf [Per f t d] (LI (daysP f d (t - f + 1).toNat)) := by
 refine g.fn code_ref01_DaysOf rfl ?_
 have hb := chkPer_zero.1 h
 repeat' ((conv => whnf); first
 | refine Ya ?_ | refine Yb ?_ | refine Yc ?_ | refine Yd ?_ | refine Ye ?_ | refine Yf ?_ | refine Yg ?_ | refine Yh ?_ | refine Yi rfl ?_ | refine Yj rfl ?_ | refine Yk rfl ?_ | refine Yl rfl ?_)
 refine LoopW.to (LoopW.up g (fun k => [(1, .ptr ⟨0, 1, 0⟩ 0 0), (3, .ref ⟨0, 3, 0⟩ 0 (daysP f d k).length (daysP f d k).length), (4, I (f + k))])
  (fun k => [(⟨0, 1, 0⟩, .cells ty_api_Period [I f, I t, I d]), (⟨0, 2, 0⟩, .row false ty_int 1 0 []), (⟨0, 3, 0⟩, .row false ty_int 1 (daysP f d k).length ((daysP f d k).map DI))]) (t - f + 1).toNat (fun k hk ih => ?_) 0 (Nat.zero_le _)) (by simp [daysP]) rfl
 have hlen := daysP_length f d k
 by_cases hlt : k < (t - f + 1).toNat
 ·have hh := r_Has g f t d (f + k) (by omega) (by omega)
  have he : hasB f t d (f + k) = inM d ((f + k + 5) % 7) := by
   simp only [hasB, decide_eq_true (show f ≤ f + (k : Int) by omega), decide_eq_true (show f + (k : Int) ≤ t by omega), Bool.true_and]
  rw [he] at hh
  by_cases hc : inM d ((f + k + 5) % 7) = true
  ·rw [hc] at hh
   repeat' ((conv => whnf); first
   | refine Ya ?_ | refine Yb ?_ | refine Yc ?_ | refine Yd ?_ | refine Ye ?_ | refine Yf ?_ | refine Yg ?_ | refine Yh ?_ | refine Yi rfl ?_ | refine Yj rfl ?_ | refine Yk rfl ?_ | refine Yl rfl ?_
    | (refine CallI.of hh ?_)
    | (refine LoopW.to (ih hlt) ?_ ?_))
   ·simp [daysP, hc]; omega
   ·simp [daysP, hc]
  ·rw [Bool.not_eq_true] at hc
   rw [hc] at hh
   repeat' ((conv => whnf); first
   | refine Ya ?_ | refine Yb ?_ | refine Yc ?_ | refine Yd ?_ | refine Ye ?_ | refine Yf ?_ | refine Yg ?_ | refine Yh ?_ | refine Yi rfl ?_ | refine Yj rfl ?_ | refine Yk rfl ?_ | refine Yl rfl ?_
    | (refine CallI.of hh ?_)
    | (refine LoopW.to (ih hlt) ?_ ?_))
   ·simp [daysP, hc]; omega
   ·simp [daysP, hc]
 ·have hk' : k = (t - f + 1).toNat := by omega
  repeat' ((conv => whnf); first
  | refine Ya ?_ | refine Yb ?_ | refine Yc ?_ | refine Yd ?_ | refine Ye ?_ | refine Yf ?_ | refine Yg ?_ | refine Yh ?_ | refine Yi rfl ?_ | refine Yj rfl ?_ | refine Yk rfl ?_ | refine Yl rfl ?_
   | (refine Ret.mk ?_))
  simp [hk']
end
end Go.Proofs.YtlnlcdnpgjhaaabGreatDoor.Co
