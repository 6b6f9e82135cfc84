/-
  TopChockNewcomers: what its law leans on, part 2.
-/
import Derived.KernelRfl
import Derived.Laws.RangeAny
import Derived.Lib.SplitLaws
import Derived.Test.YtlnlcdnpgjhaaacGreatDoorEvE
import Derived.Test.YtlnlcdnpgjhaaacGreatDoorEvX
import Derived.Test.YtlnlcdnpgjhaaacGreatDoorGood
import Derived.Test.YtlnlcdnpgjhaaacGreatDoorRead
import Derived.Test.YtlnlcdnpgjhaaacGreatDoorCna
/-
 A message's lines, by the program.
-/
namespace Go.Proofs.YtlnlcdnpgjhaaacGreatDoor.Co
open Go Go.Evl
set_option maxRecDepth 100000
theorem settle_tlow {cx : Cx} {slot lo : Nat} {old m : Mem} {o : Evl.Id} {off l top : Nat} {x : D} (h : o.lv < lo) : Go.Evl.settle cx slot lo old m (.tup [.ref o off l top, .d x]) = some (.tup [.ref o off l top, .d x], old) := by
 have hn : ¬ lo ≤ o.lv := by omega
 have hr : Go.Evl.reach lo m 64 (Go.Evl.ids (.tup [.ref o off l top, .d x])) [] = [] := by
  simp [Go.Evl.ids, Go.Evl.idsL, Go.Evl.reach, hn]
 unfold Go.Evl.settle
 simp only [hr]
 rw [if_pos (by simp [Go.Evl.within, Go.Evl.movable, Go.Evl.onceB, Go.Evl.ids, Go.Evl.idsL, h])]
 simp [Go.Evl.number, Go.Evl.ren, Go.Evl.renL, Go.Evl.subst, Go.Evl.moved]
theorem Some'.tlow {cx : Cx} {slot lo : Nat} {old m : Mem} {o : Evl.Id} {off l top : Nat} {x : D} {K : V × Mem → Prop} (h : o.lv < lo) (k : K (.tup [.ref o off l top, .d x], old)) : Some' (Go.Evl.settle cx slot lo old m (.tup [.ref o off l top, .d x])) K := ⟨_, settle_tlow h, k⟩
theorem settle_trow {cx : Cx} {slot lo : Nat} {old m : Mem} {o : Evl.Id} {off l top : Nat} {x : D} {wr : Bool} {t sz n : Nat} {xs : List D} (hlo : lo ≤ o.lv) (hl : Evl.look m o = some (.row wr t sz n xs)) :
  Go.Evl.settle cx slot lo old m (.tup [.ref o off l top, .d x]) = some (.tup [.ref ⟨cx.lv, slot, Go.Evl.freeK cx.lv slot old⟩ off l top, .d x], old ++ [(⟨cx.lv, slot, Go.Evl.freeK cx.lv slot old⟩, .row wr t sz n xs)]) := by
 have hr : Go.Evl.reach lo m 64 (Go.Evl.ids (.tup [.ref o off l top, .d x])) [] = [o] := by
  simp [Go.Evl.ids, Go.Evl.idsL, Go.Evl.reach, hlo, hl, Go.Evl.idsO]
 unfold Go.Evl.settle
 simp only [hr]
 rw [if_pos (by simp [Go.Evl.within, Go.Evl.movable, Go.Evl.onceB, Go.Evl.ids, Go.Evl.idsL, hl, hlo, Go.Evl.idsO, Go.Evl.isLoop])]
 simp [Go.Evl.number, Go.Evl.ren, Go.Evl.renL, Go.Evl.subst, Go.Evl.moved, hl, Go.Evl.renO]
theorem Some'.trow {cx : Cx} {slot lo : Nat} {old m : Mem} {o : Evl.Id} {off l top : Nat} {x : D} {wr : Bool} {t sz n : Nat} {xs : List D} {K : V × Mem → Prop} (c : Nat) (hlo : lo ≤ o.lv) (hl : Evl.look m o = some (.row wr t sz n xs)) (hf : Go.Evl.freeK cx.lv slot old = c)
  (k : K (.tup [.ref ⟨cx.lv, slot, c⟩ off l top, .d x], old ++ [(⟨cx.lv, slot, c⟩, .row wr t sz n xs)])) : Some' (Go.Evl.settle cx slot lo old m (.tup [.ref o off l top, .d x])) K := ⟨_, settle_trow hlo hl, by rw [hf]; exact k⟩
abbrev kA (a b : Mst) (l : List Ent) : Mem := [(⟨0, 2, 0⟩, .row true ty_message_Entry 15 0 []), (⟨0, 5, 0⟩, .row true ty_message_Entry 15 l.length (l.flatMap Ent.cells)), (⟨0, 9, 0⟩, .cells ty_message_Message (msV a)), (⟨0, 10, 0⟩, .cells ty_message_Message (msV b))]
abbrev qA (a b : Mst) (l : List Ent) (x : Lnt) (z : Nat) : Mem := [(⟨0, 2, 0⟩, .row true ty_message_Entry 15 0 []), (⟨0, 5, 0⟩, .row true ty_message_Entry 15 l.length (l.flatMap Ent.cells)), (⟨0, 9, 0⟩, .cells ty_message_Message (msV a)), (⟨0, 10, 0⟩, .cells ty_message_Message (msV b)), (⟨0, 12, 0⟩, .cells ty_message_Line (lnV x)), (⟨0, 75, z⟩, .row true ty_message_Entry 15 0 [])]
abbrev kB (a b : Mst) (l1 : List Ent) (c : Nat) (l : List Ent) : Mem := [(⟨0, 2, 0⟩, .row true ty_message_Entry 15 0 []), (⟨0, 5, 0⟩, .row true ty_message_Entry 15 l1.length (l1.flatMap Ent.cells)), (⟨0, 9, 0⟩, .cells ty_message_Message (msV a)), (⟨0, 10, 0⟩, .cells ty_message_Message (msV b)), (⟨0, 75, c⟩, .row true ty_message_Entry 15 l.length (l.flatMap Ent.cells))]
abbrev qB (a b : Mst) (l1 : List Ent) (c : Nat) (l : List Ent) (x : Lnt) (z : Nat) : Mem := [(⟨0, 2, 0⟩, .row true ty_message_Entry 15 0 []), (⟨0, 5, 0⟩, .row true ty_message_Entry 15 l1.length (l1.flatMap Ent.cells)), (⟨0, 9, 0⟩, .cells ty_message_Message (msV a)), (⟨0, 10, 0⟩, .cells ty_message_Message (msV b)), (⟨0, 75, c⟩, .row true ty_message_Entry 15 l.length (l.flatMap Ent.cells)), (⟨0, 12, 0⟩, .cells ty_message_Line (lnV x)), (⟨0, 75, z⟩, .row true ty_message_Entry 15 0 [])]
abbrev kC (a b : Mst) (l1 : List Ent) (c : Nat) (l : List Ent) : Mem := [(⟨0, 2, 0⟩, .row true ty_message_Entry 15 0 []), (⟨0, 5, 0⟩, .row true ty_message_Entry 15 l1.length (l1.flatMap Ent.cells)), (⟨0, 75, c⟩, .row true ty_message_Entry 15 l.length (l.flatMap Ent.cells)), (⟨0, 9, 0⟩, .cells ty_message_Message (msV a)), (⟨0, 10, 0⟩, .cells ty_message_Message (msV b))]
abbrev qC (a b : Mst) (l1 : List Ent) (c : Nat) (l : List Ent) (x : Lnt) (z : Nat) : Mem := [(⟨0, 2, 0⟩, .row true ty_message_Entry 15 0 []), (⟨0, 5, 0⟩, .row true ty_message_Entry 15 l1.length (l1.flatMap Ent.cells)), (⟨0, 75, c⟩, .row true ty_message_Entry 15 l.length (l.flatMap Ent.cells)), (⟨0, 9, 0⟩, .cells ty_message_Message (msV a)), (⟨0, 10, 0⟩, .cells ty_message_Message (msV b)), (⟨0, 12, 0⟩, .cells ty_message_Line (lnV x)), (⟨0, 75, z⟩, .row true ty_message_Entry 15 0 [])]
abbrev kD (a b : Mst) (l1 l2 : List Ent) (d c : Nat) (l : List Ent) : Mem := [(⟨0, 2, 0⟩, .row true ty_message_Entry 15 0 []), (⟨0, 5, 0⟩, .row true ty_message_Entry 15 l1.length (l1.flatMap Ent.cells)), (⟨0, 75, d⟩, .row true ty_message_Entry 15 l2.length (l2.flatMap Ent.cells)), (⟨0, 9, 0⟩, .cells ty_message_Message (msV a)), (⟨0, 10, 0⟩, .cells ty_message_Message (msV b)), (⟨0, 75, c⟩, .row true ty_message_Entry 15 l.length (l.flatMap Ent.cells))]
abbrev qD (a b : Mst) (l1 l2 : List Ent) (d c : Nat) (l : List Ent) (x : Lnt) (z : Nat) : Mem := [(⟨0, 2, 0⟩, .row true ty_message_Entry 15 0 []), (⟨0, 5, 0⟩, .row true ty_message_Entry 15 l1.length (l1.flatMap Ent.cells)), (⟨0, 75, d⟩, .row true ty_message_Entry 15 l2.length (l2.flatMap Ent.cells)), (⟨0, 9, 0⟩, .cells ty_message_Message (msV a)), (⟨0, 10, 0⟩, .cells ty_message_Message (msV b)), (⟨0, 75, c⟩, .row true ty_message_Entry 15 l.length (l.flatMap Ent.cells)), (⟨0, 12, 0⟩, .cells ty_message_Line (lnV x)), (⟨0, 75, z⟩, .row true ty_message_Entry 15 0 [])]
abbrev eL (ms : List Mst) (i : Nat) (a : Mst) (o : Evl.Id) (n k : Nat) : Env := [(0, LMs ms), (5, .ref o 0 n n), (6, I i), (7, I 0), (9, .ptr ⟨0, 9, 0⟩ 0 0), (16, LMs ms), (17, I ms.length), (18, I i), (64, LL a.ls), (65, I a.ls.length), (66, I k)]
abbrev eX (ms : List Mst) (i : Nat) (a : Mst) (o : Evl.Id) (n k : Nat) : Env := [(0, LMs ms), (5, .ref o 0 n n), (6, I i), (7, I 0), (9, .ptr ⟨0, 9, 0⟩ 0 0), (16, LMs ms), (17, I ms.length), (18, I i), (64, LL a.ls), (65, I a.ls.length), (66, I k), (67, B false)]
abbrev eB (ms : List Mst) (i : Nat) (a : Mst) (o : Evl.Id) (e : Int) (k : Nat) : Env := [(0, LMs ms), (5, .ref o 0 0 0), (6, I i), (7, I e), (9, .ptr ⟨0, 9, 0⟩ 0 0), (16, LMs ms), (17, I ms.length), (18, I i), (64, LL a.ls), (65, I a.ls.length), (66, I k), (67, B true), (79, B true)]
section
variable {E : Oracle} (g : Good E)
include g
set_option maxHeartbeats 16000000 in
theorem s_lines0 (ms : List Mst) (i : Nat) (a b : Mst) (l0 : List Ent) (hl0 : l0.length ≤ 64) (ha : a.ls.length ≤ 1000000) (ok : plcOk a.da l0 a.ls) (res : List Ent × Int) (hres : linG a.da l0 a.ls = res) {K : Ex → Env → Mem → Prop}
  (okP : ∀ l : List Ent, res = (l, 0) → l.length ≤ 64 → Hold (K (.exit 2) (eX ms i a ⟨0, 5, 0⟩ l.length a.ls.length) (kA a b l)))
  (okQ : ∀ (l l1 : List Ent) (c : Nat), res = (l, 0) → l.length ≤ 64 → Hold (K (.exit 2) (eX ms i a ⟨0, 75, c⟩ l.length a.ls.length) (kB a b l1 c l)))
  (noP : ∀ (l : List Ent) (x : Lnt) (e : Int) (k : Nat), e ≠ 0 → res.2 = e → Hold (K (.exit 0) (eB ms i a ⟨0, 75, 0⟩ e k) (qA a b l x 0)))
  (noQ : ∀ (l l1 : List Ent) (c : Nat) (x : Lnt) (e : Int) (k : Nat), e ≠ 0 → res.2 = e → Hold (K (.exit 0) (eB ms i a ⟨0, 75, (c + 1)⟩ e k) (qB a b l1 c l x (c + 1)))) :
  LoopW E ⟨0, 0 + 1⟩ [0, 5, 6, 7, 9, 16, 17, 18, 64, 65, 66] [⟨0, 2, 0⟩, ⟨0, 5, 0⟩, ⟨0, 9, 0⟩, ⟨0, 10, 0⟩] b_message_Requests_1 (eL ms i a ⟨0, 5, 0⟩ l0.length 0) (kA a b l0) K := by
 refine LoopW.to (LoopW.by (σ := Option (List Ent × Nat) × List Ent × Nat) g (fun s => s.2.1.length ≤ 64 ∧ s.2.2 ≤ a.ls.length ∧ linG a.da s.2.1 (a.ls.drop s.2.2) = res ∧ plcOk a.da s.2.1 (a.ls.drop s.2.2) ∧ (∀ p, s.1 = some p → True)) (fun s => match s.1 with | none => eL ms i a ⟨0, 5, 0⟩ s.2.1.length s.2.2 | some p => eL ms i a ⟨0, 75, p.2⟩ s.2.1.length s.2.2) (fun s => match s.1 with | none => kA a b s.2.1 | some p => kB a b p.1 p.2 s.2.1) (fun s => a.ls.length - s.2.2) ?_ (none, l0, 0) ⟨hl0, Nat.zero_le _, hres, ok, fun _ h => by cases h⟩) rfl rfl
 clear hres ok hl0
 rintro ⟨_ | ⟨l1, c⟩, l, k⟩ ⟨hl, hk, hr, hp, hd⟩ ih
 ·dsimp only at hl hk hr hp hd ih ⊢
  clear hd
  by_cases hlt : k < a.ls.length
  ·rw [linG_drop hlt] at hr
   rw [List.drop_eq_getElem_cons hlt] at hp
   obtain ⟨hp1, hp2⟩ := hp
   have hst := fun {K} => in_stepA g a b l a.ls[k] a.da hl hp1 (K := K)
   by_cases hz : stpE l a.ls[k] = 0
   ·rw [if_pos hz] at hr
    have hlen := stp_len (da := a.da) hl hz hp1
    by_cases h68 : a.ls[k].ac = [68]
    ·have ih := ih (some (l, 0), stpL l a.ls[k] a.da, k + 1) ⟨hlen, by dsimp only; omega, hr, hp2 hz, fun _ _ => trivial⟩ (by dsimp only; omega)
     dsimp only at ih
     generalize stpL l a.ls[k] a.da = L at *
     repeat' ((conv => whnf); first
     | refine Yz ?_
      | (refine PickW.rec Lnt.cells_length k rfl hlt ?_)
      | (refine hst (fun e h1 h2 => absurd (h1 ▸ hz) h2) (fun _ h => absurd h68 h) (fun _ _ => ?_))
      | (refine Some'.trow 0 (by decide) rfl rfl ?_)
      | (refine LoopW.to ih rfl rfl))
    ·have ih := ih (none, stpL l a.ls[k] a.da, k + 1) ⟨hlen, by dsimp only; omega, hr, hp2 hz, fun _ h => by cases h⟩ (by dsimp only; omega)
     dsimp only at ih
     generalize stpL l a.ls[k] a.da = L at *
     repeat' ((conv => whnf); first
     | refine Yz ?_
      | (refine PickW.rec Lnt.cells_length k rfl hlt ?_)
      | (refine hst (fun e h1 h2 => absurd (h1 ▸ hz) h2) (fun _ _ => ?_) (fun _ h => absurd h h68))
      | (refine Some'.tlow (Nat.lt_succ_self 0) ?_)
      | (refine LoopW.to ih rfl rfl))
   ·rw [if_neg hz] at hr
    have hno := (noP l a.ls[k] (stpE l a.ls[k]) k hz (by rw [← hr])).go
    generalize hez : stpE l a.ls[k] = ez at *
    repeat' ((conv => whnf); first
    | refine Yz ?_
     | (refine PickW.rec Lnt.cells_length k rfl hlt ?_)
     | (refine hst (fun e h1 h2 => ?_) (fun h _ => absurd h hz) (fun h _ => absurd h hz))
     | (obtain rfl := h1)
     | (refine Some'.trow 0 (by decide) rfl rfl ?_)
     | (refine Cmp.ff hz ?_)
     | (exact hno))
  ·obtain rfl : k = a.ls.length := by omega
   rw [List.drop_length, linG] at hr
   have hok := (okP l hr.symm hl).go
   repeat' ((conv => whnf); first
   | refine Yz ?_
    | (exact hok))
 ·dsimp only at hl hk hr hp hd ih ⊢
  clear hd
  have b1 : Nat.beq c (c + 1) = false := beq_ne (by omega)
  have b2 : Nat.beq (c + 1) c = false := beq_ne (by omega)
  by_cases hlt : k < a.ls.length
  ·rw [linG_drop hlt] at hr
   rw [List.drop_eq_getElem_cons hlt] at hp
   obtain ⟨hp1, hp2⟩ := hp
   have hst := fun {K} => in_stepB g a b l1 c l a.ls[k] a.da hl hp1 (K := K)
   by_cases hz : stpE l a.ls[k] = 0
   ·rw [if_pos hz] at hr
    have hlen := stp_len (da := a.da) hl hz hp1
    by_cases h68 : a.ls[k].ac = [68]
    ·have ih := ih (some (l1, c + 1), stpL l a.ls[k] a.da, k + 1) ⟨hlen, by dsimp only; omega, hr, hp2 hz, fun _ _ => trivial⟩ (by dsimp only; omega)
     dsimp only at ih
     generalize stpL l a.ls[k] a.da = L at *
     repeat' ((conv => whnf); first
     | refine Yz ?_
      | (refine Mt _ (Nat.beq_refl _) ?_)
      | (refine Mf _ b1 ?_)
      | (refine Mf _ b2 ?_)
      | ((refine Mt _ ?_ ?_); focus ((repeat' (first | exact mI_hit rfl | exact mI_hit (Nat.beq_refl _) | ((refine mI_skip ?h ?_); (case h => first | rfl | assumption)))); done))
      | ((refine Mf _ ?_ ?_); focus ((repeat' (first | exact rfl | ((refine mI_skip ?h ?_); (case h => first | rfl | assumption)))); done))
      | (refine PickW.rec Lnt.cells_length k rfl hlt ?_)
      | (refine hst (fun e h1 h2 => absurd (h1 ▸ hz) h2) (fun _ h => absurd h68 h) (fun _ _ => ?_))
      | (refine Some'.trow (c + 1) (by decide) rfl (by simp [Go.Evl.freeK]) ?_)
      | (refine LoopW.to ih rfl rfl))
    ·have ih := ih (some (l1, c), stpL l a.ls[k] a.da, k + 1) ⟨hlen, by dsimp only; omega, hr, hp2 hz, fun _ _ => trivial⟩ (by dsimp only; omega)
     dsimp only at ih
     generalize stpL l a.ls[k] a.da = L at *
     repeat' ((conv => whnf); first
     | refine Yz ?_
      | (refine Mt _ (Nat.beq_refl _) ?_)
      | (refine Mf _ b1 ?_)
      | (refine Mf _ b2 ?_)
      | ((refine Mt _ ?_ ?_); focus ((repeat' (first | exact mI_hit rfl | exact mI_hit (Nat.beq_refl _) | ((refine mI_skip ?h ?_); (case h => first | rfl | assumption)))); done))
      | ((refine Mf _ ?_ ?_); focus ((repeat' (first | exact rfl | ((refine mI_skip ?h ?_); (case h => first | rfl | assumption)))); done))
      | (refine PickW.rec Lnt.cells_length k rfl hlt ?_)
      | (refine hst (fun e h1 h2 => absurd (h1 ▸ hz) h2) (fun _ _ => ?_) (fun _ h => absurd h h68))
      | (refine Some'.tlow (Nat.lt_succ_self 0) ?_)
      | (refine LoopW.to ih rfl rfl))
   ·rw [if_neg hz] at hr
    have hno := (noQ l l1 c a.ls[k] (stpE l a.ls[k]) k hz (by rw [← hr])).go
    generalize hez : stpE l a.ls[k] = ez at *
    repeat' ((conv => whnf); first
    | refine Yz ?_
     | (refine Mt _ (Nat.beq_refl _) ?_)
     | (refine Mf _ b1 ?_)
     | (refine Mf _ b2 ?_)
     | ((refine Mt _ ?_ ?_); focus ((repeat' (first | exact mI_hit rfl | exact mI_hit (Nat.beq_refl _) | ((refine mI_skip ?h ?_); (case h => first | rfl | assumption)))); done))
     | ((refine Mf _ ?_ ?_); focus ((repeat' (first | exact rfl | ((refine mI_skip ?h ?_); (case h => first | rfl | assumption)))); done))
     | (refine PickW.rec Lnt.cells_length k rfl hlt ?_)
     | (refine hst (fun e h1 h2 => ?_) (fun h _ => absurd h hz) (fun h _ => absurd h hz))
     | (obtain rfl := h1)
     | (refine Some'.trow (c + 1) (by decide) rfl (by simp [Go.Evl.freeK]) ?_)
     | (refine Cmp.ff hz ?_)
     | (exact hno))
  ·obtain rfl : k = a.ls.length := by omega
   rw [List.drop_length, linG] at hr
   have hok := (okQ l l1 c hr.symm hl).go
   repeat' ((conv => whnf); first
   | refine Yz ?_
    | (refine Mt _ (Nat.beq_refl _) ?_)
    | (refine Mf _ b1 ?_)
    | (refine Mf _ b2 ?_)
    | ((refine Mt _ ?_ ?_); focus ((repeat' (first | exact mI_hit rfl | exact mI_hit (Nat.beq_refl _) | ((refine mI_skip ?h ?_); (case h => first | rfl | assumption)))); done))
    | ((refine Mf _ ?_ ?_); focus ((repeat' (first | exact rfl | ((refine mI_skip ?h ?_); (case h => first | rfl | assumption)))); done))
    | (exact hok))
set_option maxHeartbeats 16000000 in
theorem s_lines1 (ms : List Mst) (i : Nat) (a b : Mst) (l1 : List Ent) (d : Nat) (l0 : List Ent) (hl0 : l0.length ≤ 64) (ha : a.ls.length ≤ 1000000) (ok : plcOk a.da l0 a.ls) (res : List Ent × Int) (hres : linG a.da l0 a.ls = res) {K : Ex → Env → Mem → Prop}
  (okP : ∀ l : List Ent, res = (l, 0) → l.length ≤ 64 → Hold (K (.exit 2) (eX ms i a ⟨0, 75, d⟩ l.length a.ls.length) (kC a b l1 d l)))
  (okQ : ∀ (l l2 : List Ent) (c : Nat), res = (l, 0) → l.length ≤ 64 → d < c → Hold (K (.exit 2) (eX ms i a ⟨0, 75, c⟩ l.length a.ls.length) (kD a b l1 l2 d c l)))
  (noP : ∀ (l : List Ent) (x : Lnt) (e : Int) (k : Nat), e ≠ 0 → res.2 = e → Hold (K (.exit 0) (eB ms i a ⟨0, 75, (d + 1)⟩ e k) (qC a b l1 d l x (d + 1))))
  (noQ : ∀ (l l2 : List Ent) (c : Nat) (x : Lnt) (e : Int) (k : Nat), e ≠ 0 → res.2 = e → d < c → Hold (K (.exit 0) (eB ms i a ⟨0, 75, (c + 1)⟩ e k) (qD a b l1 l2 d c l x (c + 1)))) :
  LoopW E ⟨0, 0 + 1⟩ [0, 5, 6, 7, 9, 16, 17, 18, 64, 65, 66] [⟨0, 2, 0⟩, ⟨0, 5, 0⟩, ⟨0, 75, d⟩, ⟨0, 9, 0⟩, ⟨0, 10, 0⟩] b_message_Requests_1 (eL ms i a ⟨0, 75, d⟩ l0.length 0) (kC a b l1 d l0) K := by
 refine LoopW.to (LoopW.by (σ := Option (List Ent × Nat) × List Ent × Nat) g (fun s => s.2.1.length ≤ 64 ∧ s.2.2 ≤ a.ls.length ∧ linG a.da s.2.1 (a.ls.drop s.2.2) = res ∧ plcOk a.da s.2.1 (a.ls.drop s.2.2) ∧ (∀ p, s.1 = some p → d < p.2)) (fun s => match s.1 with | none => eL ms i a ⟨0, 75, d⟩ s.2.1.length s.2.2 | some p => eL ms i a ⟨0, 75, p.2⟩ s.2.1.length s.2.2) (fun s => match s.1 with | none => kC a b l1 d s.2.1 | some p => kD a b l1 p.1 d p.2 s.2.1) (fun s => a.ls.length - s.2.2) ?_ (none, l0, 0) ⟨hl0, Nat.zero_le _, hres, ok, fun _ h => by cases h⟩) rfl rfl
 clear hres ok hl0
 rintro ⟨_ | ⟨l2, c⟩, l, k⟩ ⟨hl, hk, hr, hp, hd⟩ ih
 ·dsimp only at hl hk hr hp hd ih ⊢
  clear hd
  have b1 : Nat.beq d (d + 1) = false := beq_ne (by omega)
  have b2 : Nat.beq (d + 1) d = false := beq_ne (by omega)
  by_cases hlt : k < a.ls.length
  ·rw [linG_drop hlt] at hr
   rw [List.drop_eq_getElem_cons hlt] at hp
   obtain ⟨hp1, hp2⟩ := hp
   have hst := fun {K} => in_stepC g a b l1 d l a.ls[k] a.da hl hp1 (K := K)
   by_cases hz : stpE l a.ls[k] = 0
   ·rw [if_pos hz] at hr
    have hlen := stp_len (da := a.da) hl hz hp1
    by_cases h68 : a.ls[k].ac = [68]
    ·have ih := ih (some (l, d + 1), stpL l a.ls[k] a.da, k + 1) ⟨hlen, by dsimp only; omega, hr, hp2 hz, fun p hp => by cases hp; exact Nat.lt_succ_self _⟩ (by dsimp only; omega)
     dsimp only at ih
     generalize stpL l a.ls[k] a.da = L at *
     repeat' ((conv => whnf); first
     | refine Yz ?_
      | (refine Mt _ (Nat.beq_refl _) ?_)
      | (refine Mf _ b1 ?_)
      | (refine Mf _ b2 ?_)
      | ((refine Mt _ ?_ ?_); focus ((repeat' (first | exact mI_hit rfl | exact mI_hit (Nat.beq_refl _) | ((refine mI_skip ?h ?_); (case h => first | rfl | assumption)))); done))
      | ((refine Mf _ ?_ ?_); focus ((repeat' (first | exact rfl | ((refine mI_skip ?h ?_); (case h => first | rfl | assumption)))); done))
      | (refine PickW.rec Lnt.cells_length k rfl hlt ?_)
      | (refine hst (fun e h1 h2 => absurd (h1 ▸ hz) h2) (fun _ h => absurd h68 h) (fun _ _ => ?_))
      | (refine Some'.trow (d + 1) (by decide) rfl (by simp [Go.Evl.freeK]) ?_)
      | (refine LoopW.to ih rfl rfl))
    ·have ih := ih (none, stpL l a.ls[k] a.da, k + 1) ⟨hlen, by dsimp only; omega, hr, hp2 hz, fun _ h => by cases h⟩ (by dsimp only; omega)
     dsimp only at ih
     generalize stpL l a.ls[k] a.da = L at *
     repeat' ((conv => whnf); first
     | refine Yz ?_
      | (refine Mt _ (Nat.beq_refl _) ?_)
      | (refine Mf _ b1 ?_)
      | (refine Mf _ b2 ?_)
      | ((refine Mt _ ?_ ?_); focus ((repeat' (first | exact mI_hit rfl | exact mI_hit (Nat.beq_refl _) | ((refine mI_skip ?h ?_); (case h => first | rfl | assumption)))); done))
      | ((refine Mf _ ?_ ?_); focus ((repeat' (first | exact rfl | ((refine mI_skip ?h ?_); (case h => first | rfl | assumption)))); done))
      | (refine PickW.rec Lnt.cells_length k rfl hlt ?_)
      | (refine hst (fun e h1 h2 => absurd (h1 ▸ hz) h2) (fun _ _ => ?_) (fun _ h => absurd h h68))
      | (refine Some'.tlow (Nat.lt_succ_self 0) ?_)
      | (refine LoopW.to ih rfl rfl))
   ·rw [if_neg hz] at hr
    have hno := (noP l a.ls[k] (stpE l a.ls[k]) k hz (by rw [← hr])).go
    generalize hez : stpE l a.ls[k] = ez at *
    repeat' ((conv => whnf); first
    | refine Yz ?_
     | (refine Mt _ (Nat.beq_refl _) ?_)
     | (refine Mf _ b1 ?_)
     | (refine Mf _ b2 ?_)
     | ((refine Mt _ ?_ ?_); focus ((repeat' (first | exact mI_hit rfl | exact mI_hit (Nat.beq_refl _) | ((refine mI_skip ?h ?_); (case h => first | rfl | assumption)))); done))
     | ((refine Mf _ ?_ ?_); focus ((repeat' (first | exact rfl | ((refine mI_skip ?h ?_); (case h => first | rfl | assumption)))); done))
     | (refine PickW.rec Lnt.cells_length k rfl hlt ?_)
     | (refine hst (fun e h1 h2 => ?_) (fun h _ => absurd h hz) (fun h _ => absurd h hz))
     | (obtain rfl := h1)
     | (refine Some'.trow (d + 1) (by decide) rfl (by simp [Go.Evl.freeK]) ?_)
     | (refine Cmp.ff hz ?_)
     | (exact hno))
  ·obtain rfl : k = a.ls.length := by omega
   rw [List.drop_length, linG] at hr
   have hok := (okP l hr.symm hl).go
   repeat' ((conv => whnf); first
   | refine Yz ?_
    | (refine Mt _ (Nat.beq_refl _) ?_)
    | (refine Mf _ b1 ?_)
    | (refine Mf _ b2 ?_)
    | ((refine Mt _ ?_ ?_); focus ((repeat' (first | exact mI_hit rfl | exact mI_hit (Nat.beq_refl _) | ((refine mI_skip ?h ?_); (case h => first | rfl | assumption)))); done))
    | ((refine Mf _ ?_ ?_); focus ((repeat' (first | exact rfl | ((refine mI_skip ?h ?_); (case h => first | rfl | assumption)))); done))
    | (exact hok))
 ·dsimp only at hl hk hr hp hd ih ⊢
  have hd : d < c := hd _ rfl
  have b1 : Nat.beq c (c + 1) = false := beq_ne (by omega)
  have b2 : Nat.beq (c + 1) c = false := beq_ne (by omega)
  have b3 : Nat.beq d c = false := beq_ne (by omega)
  have b4 : Nat.beq c d = false := beq_ne (by omega)
  have b5 : Nat.beq d (c + 1) = false := beq_ne (by omega)
  have b6 : Nat.beq (c + 1) d = false := beq_ne (by omega)
  by_cases hlt : k < a.ls.length
  ·rw [linG_drop hlt] at hr
   rw [List.drop_eq_getElem_cons hlt] at hp
   obtain ⟨hp1, hp2⟩ := hp
   have hst := fun {K} => in_stepD g a b l1 l2 d c (show ¬ d = c by omega) l a.ls[k] a.da hl hp1 (K := K)
   by_cases hz : stpE l a.ls[k] = 0
   ·rw [if_pos hz] at hr
    have hlen := stp_len (da := a.da) hl hz hp1
    by_cases h68 : a.ls[k].ac = [68]
    ·have ih := ih (some (l2, c + 1), stpL l a.ls[k] a.da, k + 1) ⟨hlen, by dsimp only; omega, hr, hp2 hz, fun p hp => by cases hp; dsimp only; omega⟩ (by dsimp only; omega)
     dsimp only at ih
     generalize stpL l a.ls[k] a.da = L at *
     repeat' ((conv => whnf); first
     | refine Yz ?_
      | (refine Mt _ (Nat.beq_refl _) ?_)
      | (refine Mf _ b1 ?_)
      | (refine Mf _ b2 ?_)
      | (refine Mf _ b3 ?_)
      | (refine Mf _ b4 ?_)
      | (refine Mf _ b5 ?_)
      | (refine Mf _ b6 ?_)
      | ((refine Mt _ ?_ ?_); focus ((repeat' (first | exact mI_hit rfl | exact mI_hit (Nat.beq_refl _) | ((refine mI_skip ?h ?_); (case h => first | rfl | assumption)))); done))
      | ((refine Mf _ ?_ ?_); focus ((repeat' (first | exact rfl | ((refine mI_skip ?h ?_); (case h => first | rfl | assumption)))); done))
      | (refine PickW.rec Lnt.cells_length k rfl hlt ?_)
      | (refine hst (fun e h1 h2 => absurd (h1 ▸ hz) h2) (fun _ h => absurd h68 h) (fun _ _ => ?_))
      | (refine Some'.trow (c + 1) (by decide) rfl (by simp [Go.Evl.freeK]; omega) ?_)
      | (refine LoopW.to ih rfl rfl))
    ·have ih := ih (some (l2, c), stpL l a.ls[k] a.da, k + 1) ⟨hlen, by dsimp only; omega, hr, hp2 hz, fun p hp => by cases hp; exact hd⟩ (by dsimp only; omega)
     dsimp only at ih
     generalize stpL l a.ls[k] a.da = L at *
     repeat' ((conv => whnf); first
     | refine Yz ?_
      | (refine Mt _ (Nat.beq_refl _) ?_)
      | (refine Mf _ b1 ?_)
      | (refine Mf _ b2 ?_)
      | (refine Mf _ b3 ?_)
      | (refine Mf _ b4 ?_)
      | (refine Mf _ b5 ?_)
      | (refine Mf _ b6 ?_)
      | ((refine Mt _ ?_ ?_); focus ((repeat' (first | exact mI_hit rfl | exact mI_hit (Nat.beq_refl _) | ((refine mI_skip ?h ?_); (case h => first | rfl | assumption)))); done))
      | ((refine Mf _ ?_ ?_); focus ((repeat' (first | exact rfl | ((refine mI_skip ?h ?_); (case h => first | rfl | assumption)))); done))
      | (refine PickW.rec Lnt.cells_length k rfl hlt ?_)
      | (refine hst (fun e h1 h2 => absurd (h1 ▸ hz) h2) (fun _ _ => ?_) (fun _ h => absurd h h68))
      | (refine Some'.tlow (Nat.lt_succ_self 0) ?_)
      | (refine LoopW.to ih rfl rfl))
   ·rw [if_neg hz] at hr
    have hno := (noQ l l2 c a.ls[k] (stpE l a.ls[k]) k hz (by rw [← hr]) hd).go
    generalize hez : stpE l a.ls[k] = ez at *
    repeat' ((conv => whnf); first
    | refine Yz ?_
     | (refine Mt _ (Nat.beq_refl _) ?_)
     | (refine Mf _ b1 ?_)
     | (refine Mf _ b2 ?_)
     | (refine Mf _ b3 ?_)
     | (refine Mf _ b4 ?_)
     | (refine Mf _ b5 ?_)
     | (refine Mf _ b6 ?_)
     | ((refine Mt _ ?_ ?_); focus ((repeat' (first | exact mI_hit rfl | exact mI_hit (Nat.beq_refl _) | ((refine mI_skip ?h ?_); (case h => first | rfl | assumption)))); done))
     | ((refine Mf _ ?_ ?_); focus ((repeat' (first | exact rfl | ((refine mI_skip ?h ?_); (case h => first | rfl | assumption)))); done))
     | (refine PickW.rec Lnt.cells_length k rfl hlt ?_)
     | (refine hst (fun e h1 h2 => ?_) (fun h _ => absurd h hz) (fun h _ => absurd h hz))
     | (obtain rfl := h1)
     | (refine Some'.trow (c + 1) (by decide) rfl (by simp [Go.Evl.freeK]; omega) ?_)
     | (refine Cmp.ff hz ?_)
     | (exact hno))
  ·obtain rfl : k = a.ls.length := by omega
   rw [List.drop_length, linG] at hr
   have hok := (okQ l l2 c hr.symm hl hd).go
   repeat' ((conv => whnf); first
   | refine Yz ?_
    | (refine Mt _ (Nat.beq_refl _) ?_)
    | (refine Mf _ b1 ?_)
    | (refine Mf _ b2 ?_)
    | (refine Mf _ b3 ?_)
    | (refine Mf _ b4 ?_)
    | (refine Mf _ b5 ?_)
    | (refine Mf _ b6 ?_)
    | ((refine Mt _ ?_ ?_); focus ((repeat' (first | exact mI_hit rfl | exact mI_hit (Nat.beq_refl _) | ((refine mI_skip ?h ?_); (case h => first | rfl | assumption)))); done))
    | ((refine Mf _ ?_ ?_); focus ((repeat' (first | exact rfl | ((refine mI_skip ?h ?_); (case h => first | rfl | assumption)))); done))
    | (exact hok))
end
end Go.Proofs.YtlnlcdnpgjhaaacGreatDoor.Co
/-
 Requests, by the program.
-/
namespace Go.Proofs.YtlnlcdnpgjhaaacGreatDoor.Co
open Go Go.Evl
set_option maxRecDepth 100000
abbrev oA (l : List Ent) : Mem := [(⟨0, 2, 0⟩, .row true ty_message_Entry 15 0 []), (⟨0, 5, 0⟩, .row true ty_message_Entry 15 l.length (l.flatMap Ent.cells))]
abbrev oB (l1 : List Ent) (c : Nat) (l : List Ent) : Mem := [(⟨0, 2, 0⟩, .row true ty_message_Entry 15 0 []), (⟨0, 5, 0⟩, .row true ty_message_Entry 15 l1.length (l1.flatMap Ent.cells)), (⟨0, 75, c⟩, .row true ty_message_Entry 15 l.length (l.flatMap Ent.cells))]
abbrev eO (ms : List Mst) (o : Evl.Id) (n i : Nat) : Env := [(0, LMs ms), (5, .ref o 0 n n), (6, I ((i - 1 : Nat) : Int)), (7, I 0), (16, LMs ms), (17, I ms.length), (18, I i)]
section
variable {E : Oracle} (g : Good E)
include g
theorem s_firstW (f p m : Mst) (b1 b2 b3 : Bool) (h1 : b1 = !decide (m.ki = REQ)) (h2 : b2 = !decide (m.ai = f.ai ∧ m.se = f.se)) (h3 : b3 = decide (m.da < p.da)) : Fc E n_message_first [.d (.list 4 [DI (chkMs m), DI (if b1 = true then 13 else 0), DI (if b2 = true then 29 else 0), DI (if b3 = true then 11 else 0)])] (I (msgE f p m)) := by
 have h := s_mfirst4 g (chkMs m) (if b1 = true then 13 else 0) (if b2 = true then 29 else 0) (if b3 = true then 11 else 0)
 have e : msgE f p m = firstI [chkMs m, if b1 = true then 13 else 0, if b2 = true then 29 else 0, if b3 = true then 11 else 0] := by
  unfold msgE
  congr 1
  subst h1 h2 h3
  by_cases q1 : m.ki = REQ <;> by_cases q2 : m.ai = f.ai ∧ m.se = f.se <;> by_cases q3 : m.da < p.da <;> simp [q1, q2, q3]
 rw [e]
 exact h
set_option maxHeartbeats 16000000 in
theorem s_Requests (ms : List Mst) (hms : ms.length ≤ 1000) (hls : ∀ m ∈ ms, m.ls.length ≤ 1000000) : Fc E n_message_Requests [LMs ms] (.tup [LE (reqs ms).1, I ((reqs ms).2.1 : Nat), I (reqs ms).2.2]) := by
 refine g.fn rfl rfl ?_
 by_cases h64 : 64 < ms.length
 ·unfold reqs
  rw [if_pos h64]
  repeat' ((conv => whnf); first
  | refine Yz ?_
   | (refine Ret.mk rfl))
 ·by_cases h0 : ms.length = 0
  ·obtain rfl := List.length_eq_zero_iff.1 h0
   repeat' ((conv => whnf); first
   | refine Yz ?_
    | (refine LoopW.step g.lim ?_)
    | (refine Ret.mk rfl))
  ·have hpos : 0 < ms.length := by omega
   generalize hR : V.tup [LE (reqs ms).1, I ((reqs ms).2.1 : Nat), I (reqs ms).2.2] = R
   rw [reqs_eq hpos (by omega)] at hR
   rw [ms_get hpos] at hR
   repeat' ((conv => whnf); first
   | refine Yz ?_)
   refine LoopW.to (LoopW.by (σ := Option (List Ent × Nat) × List Ent × Nat) g (fun s => s.2.1.length ≤ 64 ∧ s.2.2 ≤ ms.length ∧ reqG ms[0] ms[0] 0 [] ms = reqG ms[0] (ms.getD (s.2.2 - 1) zeroM) s.2.2 s.2.1 (ms.drop s.2.2)) (fun s => match s.1 with | none => eO ms ⟨0, 5, 0⟩ s.2.1.length s.2.2 | some q => eO ms ⟨0, 75, q.2⟩ s.2.1.length s.2.2) (fun s => match s.1 with | none => oA s.2.1 | some q => oB q.1 q.2 s.2.1) (fun s => ms.length - s.2.2) ?_ (none, [], 0) ⟨by simp, Nat.zero_le _, by rw [show 0 - 1 = 0 from rfl, ms_get hpos]; rfl⟩) rfl rfl
   rintro ⟨_ | ⟨l1, d⟩, out, i⟩ ⟨hout, hi, hr⟩ ih
   ·dsimp only at hout hi hr ih ⊢
    rw [hr] at hR
    by_cases hlt : i < ms.length
    ·have hp : i - 1 < ms.length := by omega
     have hmem := List.getElem_mem hlt
     have hC := s_CheckMessage g ms[i] (hls _ hmem)
     have hW := s_firstW g ms[0] ms[i - 1] ms[i] _ _ _ rfl rfl rfl
     rw [ms_get hp] at hR hr
     rw [reqG_drop hlt] at hR
     by_cases hz : msgE ms[0] ms[i - 1] ms[i] = 0
     ·rw [if_pos hz] at hR
      have hrd := fun (h2 : (linG ms[i].da out ms[i].ls).2 = 0) => by
       have e := hr
       rw [reqG_drop hlt, if_pos hz, if_pos h2] at e
       exact e
      rw [hz] at hW
      have hz' := hz
      unfold msgE at hz'
      rw [firstI_zero] at hz'
      have hzc := hz' (chkMs ms[i]) (by simp)
      have hk : ms[i].ki = REQ := Decidable.byContradiction fun hn => by have := hz' (if ms[i].ki = REQ then 0 else 13) (by simp); rw [if_neg hn] at this; cases this
      have hh : ms[i].ai = ms[0].ai ∧ ms[i].se = ms[0].se := Decidable.byContradiction fun hn => by have := hz' (if ms[i].ai = ms[0].ai ∧ ms[i].se = ms[0].se then 0 else 29) (by simp); rw [if_neg hn] at this; cases this
      have hd : ¬ ms[i].da < ms[i - 1].da := fun hn => by have := hz' (if ms[i].da < ms[i - 1].da then 11 else 0) (by simp); rw [if_pos hn] at this; cases this
      rw [decide_eq_true hk, decide_eq_true hh, decide_eq_false hd] at hW
      obtain ⟨ha, hs⟩ := hh
      have ok := plcOk_of ms[i].da ms[i].ls out none 0 (by have := (chkMs_ok.1 hzc).ok; rw [hk] at this; exact this) (fun y hy => by cases hy)
      generalize hres : linG ms[i].da out ms[i].ls = res at hR hrd
      have hin := fun {K} => s_lines0 g ms i ms[i] ms[i - 1] out hout (hls _ hmem) ok res hres (K := K)
      have hbad : ∀ e : Int, e ≠ 0 → res.2 = e → V.tup [LE [], I (i : Nat), I e] = R := fun e h1 h2 => by
       rw [if_neg (show ¬ res.2 = 0 by rw [h2]; exact h1), h2] at hR
       exact hR
      clear hz' hR ok hres
      repeat' ((conv => whnf); first
      | refine Yz ?_
       | (refine PickW.rec Mst.cells_length i rfl hlt ?_)
       | (refine PickW.rec Mst.cells_length (i - 1) (by omega) hp ?_)
       | (refine Pick.rec Mst.cells_length 0 rfl hpos rfl ?_)
       | (refine CallI.of (s_mwhen g _ _) ?_)
       | (refine CallI.of hC ?_)
       | (refine CallI.of hW ?_)
       | (refine Cmp.tt hk ?_)
       | (refine Cmp.tt ha ?_)
       | (refine Cmp.tt hs ?_)
       | (refine Cmp.ff hd ?_)
       | (refine LoopW.to (hin (fun l h1 h2 => ?_) (fun l l1 c h1 h2 => ?_) (fun l x e k h1 h2 => ?_) (fun l l1 c x e k h1 h2 => ?_)) rfl rfl)
       | fail)
      ·refine ⟨?_⟩
       have ih := ih (none, l, i + 1) ⟨h2, by dsimp only; omega, by dsimp only; rw [hrd (by rw [h1]), h1, Nat.add_sub_cancel, ms_get hlt]⟩ (by dsimp only; omega)
       dsimp only at ih
       repeat' ((conv => whnf); first
       | refine Yz ?_
        | (refine LoopW.to ih rfl rfl))
      ·refine ⟨?_⟩
       have ih := ih (some (l1, c), l, i + 1) ⟨h2, by dsimp only; omega, by dsimp only; rw [hrd (by rw [h1]), h1, Nat.add_sub_cancel, ms_get hlt]⟩ (by dsimp only; omega)
       dsimp only at ih
       repeat' ((conv => whnf); first
       | refine Yz ?_
        | (refine Mt _ (Nat.beq_refl _) ?_)
        | ((refine Mt _ ?_ ?_); focus ((repeat' (first | exact mI_hit rfl | exact mI_hit (Nat.beq_refl _) | ((refine mI_skip ?h ?_); (case h => first | rfl | assumption)))); done))
        | ((refine Mf _ ?_ ?_); focus ((repeat' (first | exact rfl | ((refine mI_skip ?h ?_); (case h => first | rfl | assumption)))); done))
        | (refine LoopW.to ih rfl rfl))
      ·refine ⟨?_⟩
       have hb := hbad e h1 h2
       repeat' ((conv => whnf); first
       | refine Yz ?_
        | (refine Cmp.ff h1 ?_)
        | (refine Ret.mk hb))
      ·refine ⟨?_⟩
       have hb := hbad e h1 h2
       repeat' ((conv => whnf); first
       | refine Yz ?_
        | (refine Cmp.ff h1 ?_)
        | (refine Ret.mk hb))
     ·rw [if_neg hz] at hR
      rw [← hR]
      generalize msgE ms[0] ms[i - 1] ms[i] = e at *
      clear ih hr hmem
      by_cases hk : ms[i].ki = REQ <;> by_cases ha : ms[i].ai = ms[0].ai <;> by_cases hs : ms[i].se = ms[0].se <;> by_cases hd : ms[i].da < ms[i - 1].da
      all_goals
       first | rw [decide_eq_true hk] at hW | rw [decide_eq_false hk] at hW
       first | rw [decide_eq_true (show ms[i].ai = ms[0].ai ∧ ms[i].se = ms[0].se from ⟨ha, hs⟩)] at hW | rw [decide_eq_false (show ¬ (ms[i].ai = ms[0].ai ∧ ms[i].se = ms[0].se) from fun h => ha h.1)] at hW | rw [decide_eq_false (show ¬ (ms[i].ai = ms[0].ai ∧ ms[i].se = ms[0].se) from fun h => hs h.2)] at hW
       first | rw [decide_eq_true hd] at hW | rw [decide_eq_false hd] at hW
       repeat' ((conv => whnf); first
       | refine Yz ?_
        | (refine PickW.rec Mst.cells_length i rfl hlt ?_)
        | (refine PickW.rec Mst.cells_length (i - 1) (by omega) hp ?_)
        | (refine Pick.rec Mst.cells_length 0 rfl hpos rfl ?_)
        | (refine CallI.of (s_mwhen g _ _) ?_)
        | (refine CallI.of hC ?_)
        | (refine CallI.of hW ?_)
        | (refine Cmp.tt hk ?_)
        | (refine Cmp.ff hk ?_)
        | (refine Cmp.tt ha ?_)
        | (refine Cmp.ff ha ?_)
        | (refine Cmp.tt hs ?_)
        | (refine Cmp.ff hs ?_)
        | (refine Cmp.tt hd ?_)
        | (refine Cmp.ff hd ?_)
        | (refine Cmp.ff hz ?_)
        | (refine Ret.mk rfl))
    ·obtain rfl : i = ms.length := by omega
     rw [List.drop_length, reqG] at hR
     rw [← hR]
     repeat' ((conv => whnf); first
     | refine Yz ?_
      | (rw [if_pos (⟨rfl, rfl⟩ : _ ∧ _)])
      | (refine Ret.mk rfl))
   ·dsimp only at hout hi hr ih ⊢
    rw [hr] at hR
    by_cases hlt : i < ms.length
    ·have hp : i - 1 < ms.length := by omega
     have hmem := List.getElem_mem hlt
     have hC := s_CheckMessage g ms[i] (hls _ hmem)
     have hW := s_firstW g ms[0] ms[i - 1] ms[i] _ _ _ rfl rfl rfl
     rw [ms_get hp] at hR hr
     rw [reqG_drop hlt] at hR
     by_cases hz : msgE ms[0] ms[i - 1] ms[i] = 0
     ·rw [if_pos hz] at hR
      have hrd := fun (h2 : (linG ms[i].da out ms[i].ls).2 = 0) => by
       have e := hr
       rw [reqG_drop hlt, if_pos hz, if_pos h2] at e
       exact e
      rw [hz] at hW
      have hz' := hz
      unfold msgE at hz'
      rw [firstI_zero] at hz'
      have hzc := hz' (chkMs ms[i]) (by simp)
      have hk : ms[i].ki = REQ := Decidable.byContradiction fun hn => by have := hz' (if ms[i].ki = REQ then 0 else 13) (by simp); rw [if_neg hn] at this; cases this
      have hh : ms[i].ai = ms[0].ai ∧ ms[i].se = ms[0].se := Decidable.byContradiction fun hn => by have := hz' (if ms[i].ai = ms[0].ai ∧ ms[i].se = ms[0].se then 0 else 29) (by simp); rw [if_neg hn] at this; cases this
      have hd : ¬ ms[i].da < ms[i - 1].da := fun hn => by have := hz' (if ms[i].da < ms[i - 1].da then 11 else 0) (by simp); rw [if_pos hn] at this; cases this
      rw [decide_eq_true hk, decide_eq_true hh, decide_eq_false hd] at hW
      obtain ⟨ha, hs⟩ := hh
      have ok := plcOk_of ms[i].da ms[i].ls out none 0 (by have := (chkMs_ok.1 hzc).ok; rw [hk] at this; exact this) (fun y hy => by cases hy)
      generalize hres : linG ms[i].da out ms[i].ls = res at hR hrd
      have hin := fun {K} => s_lines1 g ms i ms[i] ms[i - 1] l1 d out hout (hls _ hmem) ok res hres (K := K)
      have hbad : ∀ e : Int, e ≠ 0 → res.2 = e → V.tup [LE [], I (i : Nat), I e] = R := fun e h1 h2 => by
       rw [if_neg (show ¬ res.2 = 0 by rw [h2]; exact h1), h2] at hR
       exact hR
      clear hz' hR ok hres
      repeat' ((conv => whnf); first
      | refine Yz ?_
       | (refine Mt _ (Nat.beq_refl _) ?_)
       | ((refine Mt _ ?_ ?_); focus ((repeat' (first | exact mI_hit rfl | exact mI_hit (Nat.beq_refl _) | ((refine mI_skip ?h ?_); (case h => first | rfl | assumption)))); done))
       | ((refine Mf _ ?_ ?_); focus ((repeat' (first | exact rfl | ((refine mI_skip ?h ?_); (case h => first | rfl | assumption)))); done))
       | (refine PickW.rec Mst.cells_length i rfl hlt ?_)
       | (refine PickW.rec Mst.cells_length (i - 1) (by omega) hp ?_)
       | (refine Pick.rec Mst.cells_length 0 rfl hpos rfl ?_)
       | (refine CallI.of (s_mwhen g _ _) ?_)
       | (refine CallI.of hC ?_)
       | (refine CallI.of hW ?_)
       | (refine Cmp.tt hk ?_)
       | (refine Cmp.tt ha ?_)
       | (refine Cmp.tt hs ?_)
       | (refine Cmp.ff hd ?_)
       | (refine LoopW.to (hin (fun l h1 h2 => ?_) (fun l l2 c h1 h2 h3 => ?_) (fun l x e k h1 h2 => ?_) (fun l l2 c x e k h1 h2 h3 => ?_)) rfl rfl)
       | fail)
      ·refine ⟨?_⟩
       have ih := ih (some (l1, d), l, i + 1) ⟨h2, by dsimp only; omega, by dsimp only; rw [hrd (by rw [h1]), h1, Nat.add_sub_cancel, ms_get hlt]⟩ (by dsimp only; omega)
       dsimp only at ih
       repeat' ((conv => whnf); first
       | refine Yz ?_
        | (refine Mt _ (Nat.beq_refl _) ?_)
        | ((refine Mt _ ?_ ?_); focus ((repeat' (first | exact mI_hit rfl | exact mI_hit (Nat.beq_refl _) | ((refine mI_skip ?h ?_); (case h => first | rfl | assumption)))); done))
        | ((refine Mf _ ?_ ?_); focus ((repeat' (first | exact rfl | ((refine mI_skip ?h ?_); (case h => first | rfl | assumption)))); done))
        | (refine LoopW.to ih rfl rfl))
      ·refine ⟨?_⟩
       have b1 : Nat.beq d c = false := beq_ne (by omega)
       have b2 : Nat.beq c d = false := beq_ne (by omega)
       have ih := ih (some (l1, c), l, i + 1) ⟨h2, by dsimp only; omega, by dsimp only; rw [hrd (by rw [h1]), h1, Nat.add_sub_cancel, ms_get hlt]⟩ (by dsimp only; omega)
       dsimp only at ih
       repeat' ((conv => whnf); first
       | refine Yz ?_
        | (refine Mt _ (Nat.beq_refl _) ?_)
        | (refine Mf _ b1 ?_)
        | (refine Mf _ b2 ?_)
        | ((refine Mt _ ?_ ?_); focus ((repeat' (first | exact mI_hit rfl | exact mI_hit (Nat.beq_refl _) | ((refine mI_skip ?h ?_); (case h => first | rfl | assumption)))); done))
        | ((refine Mf _ ?_ ?_); focus ((repeat' (first | exact rfl | ((refine mI_skip ?h ?_); (case h => first | rfl | assumption)))); done))
        | (refine LoopW.to ih rfl rfl))
      ·refine ⟨?_⟩
       have hb := hbad e h1 h2
       repeat' ((conv => whnf); first
       | refine Yz ?_
        | (refine Cmp.ff h1 ?_)
        | (refine Ret.mk hb))
      ·refine ⟨?_⟩
       have hb := hbad e h1 h2
       repeat' ((conv => whnf); first
       | refine Yz ?_
        | (refine Cmp.ff h1 ?_)
        | (refine Ret.mk hb))
     ·rw [if_neg hz] at hR
      rw [← hR]
      generalize msgE ms[0] ms[i - 1] ms[i] = e at *
      clear ih hr hmem
      by_cases hk : ms[i].ki = REQ <;> by_cases ha : ms[i].ai = ms[0].ai <;> by_cases hs : ms[i].se = ms[0].se <;> by_cases hd : ms[i].da < ms[i - 1].da
      all_goals
       first | rw [decide_eq_true hk] at hW | rw [decide_eq_false hk] at hW
       first | rw [decide_eq_true (show ms[i].ai = ms[0].ai ∧ ms[i].se = ms[0].se from ⟨ha, hs⟩)] at hW | rw [decide_eq_false (show ¬ (ms[i].ai = ms[0].ai ∧ ms[i].se = ms[0].se) from fun h => ha h.1)] at hW | rw [decide_eq_false (show ¬ (ms[i].ai = ms[0].ai ∧ ms[i].se = ms[0].se) from fun h => hs h.2)] at hW
       first | rw [decide_eq_true hd] at hW | rw [decide_eq_false hd] at hW
       repeat' ((conv => whnf); first
       | refine Yz ?_
        | (refine Mt _ (Nat.beq_refl _) ?_)
        | ((refine Mt _ ?_ ?_); focus ((repeat' (first | exact mI_hit rfl | exact mI_hit (Nat.beq_refl _) | ((refine mI_skip ?h ?_); (case h => first | rfl | assumption)))); done))
        | ((refine Mf _ ?_ ?_); focus ((repeat' (first | exact rfl | ((refine mI_skip ?h ?_); (case h => first | rfl | assumption)))); done))
        | (refine PickW.rec Mst.cells_length i rfl hlt ?_)
        | (refine PickW.rec Mst.cells_length (i - 1) (by omega) hp ?_)
        | (refine Pick.rec Mst.cells_length 0 rfl hpos rfl ?_)
        | (refine CallI.of (s_mwhen g _ _) ?_)
        | (refine CallI.of hC ?_)
        | (refine CallI.of hW ?_)
        | (refine Cmp.tt hk ?_)
        | (refine Cmp.ff hk ?_)
        | (refine Cmp.tt ha ?_)
        | (refine Cmp.ff ha ?_)
        | (refine Cmp.tt hs ?_)
        | (refine Cmp.ff hs ?_)
        | (refine Cmp.tt hd ?_)
        | (refine Cmp.ff hd ?_)
        | (refine Cmp.ff hz ?_)
        | (refine Ret.mk rfl))
    ·obtain rfl : i = ms.length := by omega
     rw [List.drop_length, reqG] at hR
     rw [← hR]
     repeat' ((conv => whnf); first
     | refine Yz ?_
      | (rw [if_pos (⟨rfl, rfl⟩ : _ ∧ _)])
      | (refine Mt _ (Nat.beq_refl _) ?_)
      | ((refine Mt _ ?_ ?_); focus ((repeat' (first | exact mI_hit rfl | exact mI_hit (Nat.beq_refl _) | ((refine mI_skip ?h ?_); (case h => first | rfl | assumption)))); done))
      | ((refine Mf _ ?_ ?_); focus ((repeat' (first | exact rfl | ((refine mI_skip ?h ?_); (case h => first | rfl | assumption)))); done))
      | (refine Ret.mk rfl))
end
end Go.Proofs.YtlnlcdnpgjhaaacGreatDoor.Co
/-
 Messages: how the program reads a line, field by field.
-/
namespace Go.Proofs.YtlnlcdnpgjhaaacGreatDoor.Co
open Go Go.Evl
abbrev envR (ws : List D) (i : Int) : Env := [(2, .ptr ⟨0, 2, 0⟩ 0 0), (5, .d (.list 14 ws)), (6, .ptr ⟨0, 6, 0⟩ 0 0), (7, .ptr ⟨0, 7, 0⟩ 0 0), (21, I i)]
abbrev memR (outs : List V) : Mem := (⟨0, 2, 0⟩, .cells ty_message_Line [.d (.str []), .d (.str []), .d (.str []), .d (.str []), .d (.str []), .d (.str []), .d (.str []), I 0, I 0, I 0, I 0, I 0, I 0, I 0]) :: (⟨0, 6, 0⟩, .cells ty_message_Line outs) :: (fldM 0 20 ++ [(⟨0, 7, 0⟩, .cells ty_14_message_field (fldV 0 20))])
abbrev keepR : List Evl.Id := [⟨0, 2, 0⟩, ⟨0, 6, 0⟩, ⟨0, 20, 0⟩, ⟨0, 20, 1⟩, ⟨0, 20, 2⟩, ⟨0, 20, 3⟩, ⟨0, 20, 4⟩, ⟨0, 20, 5⟩, ⟨0, 20, 6⟩, ⟨0, 20, 7⟩, ⟨0, 20, 8⟩, ⟨0, 20, 9⟩, ⟨0, 20, 10⟩, ⟨0, 20, 11⟩, ⟨0, 20, 12⟩, ⟨0, 20, 13⟩, ⟨0, 20, 14⟩, ⟨0, 20, 15⟩, ⟨0, 20, 16⟩, ⟨0, 20, 17⟩, ⟨0, 20, 18⟩, ⟨0, 20, 19⟩, ⟨0, 20, 20⟩, ⟨0, 20, 21⟩, ⟨0, 7, 0⟩]
abbrev ws14 (a0 a1 a2 a3 a4 a5 a6 a7 a8 a9 a10 a11 a12 a13 : List UInt8) : List D := [.str a0, .str a1, .str a2, .str a3, .str a4, .str a5, .str a6, .str a7, .str a8, .str a9, .str a10, .str a11, .str a12, .str a13]
section
variable {E : Oracle} (g : Good E)
include g
set_option maxRecDepth 100000
set_option maxHeartbeats 8000000 in
theorem rnd_R0 (a0 a1 a2 a3 a4 a5 a6 a7 a8 a9 a10 a11 a12 a13 : List UInt8) {b : Bool} {K : Ex → Env → Mem → Prop} {R : V} (hK : ∀ e m, K .ret e m = resultsW m e [.cell 2 (some 14), .tmp 3, .tmp 4] fun v => thawW m v fun d => Ret d R) (hs : Fc E n_message_isAction [S a0] (B b)) (hF : b = false → .tup [.d (.agg zeroL), I 0, I 25] = R)
  (ih : b = true → LoopW E ⟨0, 1⟩ [2, 5, 6, 7, 21] keepR b_message_ParseLine_1 (envR (ws14 a0 a1 a2 a3 a4 a5 a6 a7 a8 a9 a10 a11 a12 a13) 1) (memR [.d (.str a0), .d (.str []), .d (.str []), .d (.str []), .d (.str []), .d (.str []), .d (.str []), I 0, I 0, I 0, I 0, I 0, I 0, I 0]) K) : LoopW E ⟨0, 1⟩ [2, 5, 6, 7, 21] keepR b_message_ParseLine_1 (envR (ws14 a0 a1 a2 a3 a4 a5 a6 a7 a8 a9 a10 a11 a12 a13) 0) (memR [.d (.str []), .d (.str []), .d (.str []), .d (.str []), .d (.str []), .d (.str []), .d (.str []), I 0, I 0, I 0, I 0, I 0, I 0, I 0]) K := by
 refine LoopW.step g.lim ?_
 repeat' ((conv => whnf); first
 | refine Yz ?_
  | (refine In.enter (f := n_message_text_2) g.lim rfl rfl ?_)
  | (refine In.enter (f := n_message_fields_1) g.lim rfl rfl ?_)
  | (refine Some'.ptr (by decide) ?_)
  | (refine CallI.of hs ?_)
  | (refine Need.mk ⟨rfl, by decide⟩ ?_)
  | (refine Br.not (fun hb => ?_) (fun hb => ?_))
  | (refine (hK _ _).mpr ?_)
  | (refine LoopW.to (ih (by assumption)) rfl rfl)
  | (refine Ret.mk (hF (by assumption))))
set_option maxHeartbeats 8000000 in
theorem rnd_R1 (a0 a1 a2 a3 a4 a5 a6 a7 a8 a9 a10 a11 a12 a13 : List UInt8) {b : Bool} {K : Ex → Env → Mem → Prop} {R : V} (hK : ∀ e m, K .ret e m = resultsW m e [.cell 2 (some 14), .tmp 3, .tmp 4] fun v => thawW m v fun d => Ret d R) (hs : Fc E n_calendar_IsName [S a1] (B b)) (hF : b = false → .tup [.d (.agg zeroL), I 1, I 25] = R)
  (ih : b = true → LoopW E ⟨0, 1⟩ [2, 5, 6, 7, 21] keepR b_message_ParseLine_1 (envR (ws14 a0 a1 a2 a3 a4 a5 a6 a7 a8 a9 a10 a11 a12 a13) 2) (memR [.d (.str a0), .d (.str []), .d (.str a1), .d (.str []), .d (.str []), .d (.str []), .d (.str []), I 0, I 0, I 0, I 0, I 0, I 0, I 0]) K) : LoopW E ⟨0, 1⟩ [2, 5, 6, 7, 21] keepR b_message_ParseLine_1 (envR (ws14 a0 a1 a2 a3 a4 a5 a6 a7 a8 a9 a10 a11 a12 a13) 1) (memR [.d (.str a0), .d (.str []), .d (.str []), .d (.str []), .d (.str []), .d (.str []), .d (.str []), I 0, I 0, I 0, I 0, I 0, I 0, I 0]) K := by
 refine LoopW.step g.lim ?_
 repeat' ((conv => whnf); first
 | refine Yz ?_
  | (refine In.enter (f := n_message_text_2) g.lim rfl rfl ?_)
  | (refine In.enter (f := n_message_fields_2) g.lim rfl rfl ?_)
  | (refine Some'.ptr (by decide) ?_)
  | (refine CallI.of hs ?_)
  | (refine Need.mk ⟨rfl, by decide⟩ ?_)
  | (refine Br.not (fun hb => ?_) (fun hb => ?_))
  | (refine (hK _ _).mpr ?_)
  | (refine LoopW.to (ih (by assumption)) rfl rfl)
  | (refine Ret.mk (hF (by assumption))))
set_option maxHeartbeats 8000000 in
theorem rnd_R2 (a0 a1 a2 a3 a4 a5 a6 a7 a8 a9 a10 a11 a12 a13 : List UInt8) {b : Bool} {K : Ex → Env → Mem → Prop} {R : V} (hK : ∀ e m, K .ret e m = resultsW m e [.cell 2 (some 14), .tmp 3, .tmp 4] fun v => thawW m v fun d => Ret d R) (hs : Fc E n_calendar_IsName [S a2] (B b)) (hF : b = false → .tup [.d (.agg zeroL), I 2, I 25] = R)
  (ih : b = true → LoopW E ⟨0, 1⟩ [2, 5, 6, 7, 21] keepR b_message_ParseLine_1 (envR (ws14 a0 a1 a2 a3 a4 a5 a6 a7 a8 a9 a10 a11 a12 a13) 3) (memR [.d (.str a0), .d (.str a2), .d (.str a1), .d (.str []), .d (.str []), .d (.str []), .d (.str []), I 0, I 0, I 0, I 0, I 0, I 0, I 0]) K) : LoopW E ⟨0, 1⟩ [2, 5, 6, 7, 21] keepR b_message_ParseLine_1 (envR (ws14 a0 a1 a2 a3 a4 a5 a6 a7 a8 a9 a10 a11 a12 a13) 2) (memR [.d (.str a0), .d (.str []), .d (.str a1), .d (.str []), .d (.str []), .d (.str []), .d (.str []), I 0, I 0, I 0, I 0, I 0, I 0, I 0]) K := by
 refine LoopW.step g.lim ?_
 repeat' ((conv => whnf); first
 | refine Yz ?_
  | (refine In.enter (f := n_message_text_2) g.lim rfl rfl ?_)
  | (refine In.enter (f := n_message_fields_3) g.lim rfl rfl ?_)
  | (refine Some'.ptr (by decide) ?_)
  | (refine CallI.of hs ?_)
  | (refine Need.mk ⟨rfl, by decide⟩ ?_)
  | (refine Br.not (fun hb => ?_) (fun hb => ?_))
  | (refine (hK _ _).mpr ?_)
  | (refine LoopW.to (ih (by assumption)) rfl rfl)
  | (refine Ret.mk (hF (by assumption))))
set_option maxHeartbeats 8000000 in
theorem rnd_R3 (a0 a1 a2 a3 a4 a5 a6 a7 a8 a9 a10 a11 a12 a13 : List UInt8) {b : Bool} {K : Ex → Env → Mem → Prop} {R : V} (hK : ∀ e m, K .ret e m = resultsW m e [.cell 2 (some 14), .tmp 3, .tmp 4] fun v => thawW m v fun d => Ret d R) (hs : Fc E n_message_isKind [S a3] (B b)) (hF : b = false → .tup [.d (.agg zeroL), I 3, I 25] = R)
  (ih : b = true → LoopW E ⟨0, 1⟩ [2, 5, 6, 7, 21] keepR b_message_ParseLine_1 (envR (ws14 a0 a1 a2 a3 a4 a5 a6 a7 a8 a9 a10 a11 a12 a13) 4) (memR [.d (.str a0), .d (.str a2), .d (.str a1), .d (.str a3), .d (.str []), .d (.str []), .d (.str []), I 0, I 0, I 0, I 0, I 0, I 0, I 0]) K) : LoopW E ⟨0, 1⟩ [2, 5, 6, 7, 21] keepR b_message_ParseLine_1 (envR (ws14 a0 a1 a2 a3 a4 a5 a6 a7 a8 a9 a10 a11 a12 a13) 3) (memR [.d (.str a0), .d (.str a2), .d (.str a1), .d (.str []), .d (.str []), .d (.str []), .d (.str []), I 0, I 0, I 0, I 0, I 0, I 0, I 0]) K := by
 refine LoopW.step g.lim ?_
 repeat' ((conv => whnf); first
 | refine Yz ?_
  | (refine In.enter (f := n_message_text_2) g.lim rfl rfl ?_)
  | (refine In.enter (f := n_message_fields_4) g.lim rfl rfl ?_)
  | (refine Some'.ptr (by decide) ?_)
  | (refine CallI.of hs ?_)
  | (refine Need.mk ⟨rfl, by decide⟩ ?_)
  | (refine Br.not (fun hb => ?_) (fun hb => ?_))
  | (refine (hK _ _).mpr ?_)
  | (refine LoopW.to (ih (by assumption)) rfl rfl)
  | (refine Ret.mk (hF (by assumption))))
set_option maxHeartbeats 8000000 in
theorem rnd_R4 (a0 a1 a2 a3 a4 a5 a6 a7 a8 a9 a10 a11 a12 a13 : List UInt8) {b : Bool} {K : Ex → Env → Mem → Prop} {R : V} (hK : ∀ e m, K .ret e m = resultsW m e [.cell 2 (some 14), .tmp 3, .tmp 4] fun v => thawW m v fun d => Ret d R) (hs : Fc E n_calendar_IsName [S a4] (B b)) (hF : b = false → .tup [.d (.agg zeroL), I 4, I 25] = R)
  (ih : b = true → LoopW E ⟨0, 1⟩ [2, 5, 6, 7, 21] keepR b_message_ParseLine_1 (envR (ws14 a0 a1 a2 a3 a4 a5 a6 a7 a8 a9 a10 a11 a12 a13) 5) (memR [.d (.str a0), .d (.str a2), .d (.str a1), .d (.str a3), .d (.str []), .d (.str a4), .d (.str []), I 0, I 0, I 0, I 0, I 0, I 0, I 0]) K) : LoopW E ⟨0, 1⟩ [2, 5, 6, 7, 21] keepR b_message_ParseLine_1 (envR (ws14 a0 a1 a2 a3 a4 a5 a6 a7 a8 a9 a10 a11 a12 a13) 4) (memR [.d (.str a0), .d (.str a2), .d (.str a1), .d (.str a3), .d (.str []), .d (.str []), .d (.str []), I 0, I 0, I 0, I 0, I 0, I 0, I 0]) K := by
 refine LoopW.step g.lim ?_
 repeat' ((conv => whnf); first
 | refine Yz ?_
  | (refine In.enter (f := n_message_text_2) g.lim rfl rfl ?_)
  | (refine In.enter (f := n_message_fields_5) g.lim rfl rfl ?_)
  | (refine Some'.ptr (by decide) ?_)
  | (refine CallI.of hs ?_)
  | (refine Need.mk ⟨rfl, by decide⟩ ?_)
  | (refine Br.not (fun hb => ?_) (fun hb => ?_))
  | (refine (hK _ _).mpr ?_)
  | (refine LoopW.to (ih (by assumption)) rfl rfl)
  | (refine Ret.mk (hF (by assumption))))
set_option maxHeartbeats 8000000 in
theorem rnd_R5 (a0 a1 a2 a3 a4 a5 a6 a7 a8 a9 a10 a11 a12 a13 : List UInt8) (n5 : Int) {b : Bool} {K : Ex → Env → Mem → Prop} {R : V} (hK : ∀ e m, K .ret e m = resultsW m e [.cell 2 (some 14), .tmp 3, .tmp 4] fun v => thawW m v fun d => Ret d R) (hs : Fc E n_message_number [S a5, I 5] (.tup [I n5, B b])) (hF : b = false → .tup [.d (.agg zeroL), I 5, I 25] = R)
  (ih : b = true → LoopW E ⟨0, 1⟩ [2, 5, 6, 7, 21] keepR b_message_ParseLine_1 (envR (ws14 a0 a1 a2 a3 a4 a5 a6 a7 a8 a9 a10 a11 a12 a13) 6) (memR [.d (.str a0), .d (.str a2), .d (.str a1), .d (.str a3), .d (.str []), .d (.str a4), .d (.str []), I n5, I 0, I 0, I 0, I 0, I 0, I 0]) K) : LoopW E ⟨0, 1⟩ [2, 5, 6, 7, 21] keepR b_message_ParseLine_1 (envR (ws14 a0 a1 a2 a3 a4 a5 a6 a7 a8 a9 a10 a11 a12 a13) 5) (memR [.d (.str a0), .d (.str a2), .d (.str a1), .d (.str a3), .d (.str []), .d (.str a4), .d (.str []), I 0, I 0, I 0, I 0, I 0, I 0, I 0]) K := by
 refine LoopW.step g.lim ?_
 repeat' ((conv => whnf); first
 | refine Yz ?_
  | (refine In.enter (f := n_message_digits_2) g.lim rfl rfl ?_)
  | (refine In.enter (f := n_message_fields_6) g.lim rfl rfl ?_)
  | (refine Some'.ptr (by decide) ?_)
  | (refine CallI.of hs ?_)
  | (refine Need.mk ⟨rfl, by decide⟩ ?_)
  | (refine Br.not (fun hb => ?_) (fun hb => ?_))
  | (refine (hK _ _).mpr ?_)
  | (refine LoopW.to (ih (by assumption)) rfl rfl)
  | (refine Ret.mk (hF (by assumption))))
set_option maxHeartbeats 8000000 in
theorem rnd_R6 (a0 a1 a2 a3 a4 a5 a6 a7 a8 a9 a10 a11 a12 a13 : List UInt8) (n5 n6 : Int) {b : Bool} {K : Ex → Env → Mem → Prop} {R : V} (hK : ∀ e m, K .ret e m = resultsW m e [.cell 2 (some 14), .tmp 3, .tmp 4] fun v => thawW m v fun d => Ret d R) (hs : Fc E n_message_number [S a6, I 5] (.tup [I n6, B b])) (hF : b = false → .tup [.d (.agg zeroL), I 6, I 25] = R)
  (ih : b = true → LoopW E ⟨0, 1⟩ [2, 5, 6, 7, 21] keepR b_message_ParseLine_1 (envR (ws14 a0 a1 a2 a3 a4 a5 a6 a7 a8 a9 a10 a11 a12 a13) 7) (memR [.d (.str a0), .d (.str a2), .d (.str a1), .d (.str a3), .d (.str []), .d (.str a4), .d (.str []), I n5, I n6, I 0, I 0, I 0, I 0, I 0]) K) : LoopW E ⟨0, 1⟩ [2, 5, 6, 7, 21] keepR b_message_ParseLine_1 (envR (ws14 a0 a1 a2 a3 a4 a5 a6 a7 a8 a9 a10 a11 a12 a13) 6) (memR [.d (.str a0), .d (.str a2), .d (.str a1), .d (.str a3), .d (.str []), .d (.str a4), .d (.str []), I n5, I 0, I 0, I 0, I 0, I 0, I 0]) K := by
 refine LoopW.step g.lim ?_
 repeat' ((conv => whnf); first
 | refine Yz ?_
  | (refine In.enter (f := n_message_digits_2) g.lim rfl rfl ?_)
  | (refine In.enter (f := n_message_fields_7) g.lim rfl rfl ?_)
  | (refine Some'.ptr (by decide) ?_)
  | (refine CallI.of hs ?_)
  | (refine Need.mk ⟨rfl, by decide⟩ ?_)
  | (refine Br.not (fun hb => ?_) (fun hb => ?_))
  | (refine (hK _ _).mpr ?_)
  | (refine LoopW.to (ih (by assumption)) rfl rfl)
  | (refine Ret.mk (hF (by assumption))))
set_option maxHeartbeats 8000000 in
theorem rnd_R7 (a0 a1 a2 a3 a4 a5 a6 a7 a8 a9 a10 a11 a12 a13 : List UInt8) (n5 n6 n7 : Int) {b : Bool} {K : Ex → Env → Mem → Prop} {R : V} (hK : ∀ e m, K .ret e m = resultsW m e [.cell 2 (some 14), .tmp 3, .tmp 4] fun v => thawW m v fun d => Ret d R) (hs : Fc E n_calendar_ParseMask [S a7] (.tup [I n7, I (if b = true then 0 else 25)])) (hF : b = false → .tup [.d (.agg zeroL), I 7, I 25] = R)
  (ih : b = true → LoopW E ⟨0, 1⟩ [2, 5, 6, 7, 21] keepR b_message_ParseLine_1 (envR (ws14 a0 a1 a2 a3 a4 a5 a6 a7 a8 a9 a10 a11 a12 a13) 8) (memR [.d (.str a0), .d (.str a2), .d (.str a1), .d (.str a3), .d (.str []), .d (.str a4), .d (.str []), I n5, I n6, I n7, I 0, I 0, I 0, I 0]) K) : LoopW E ⟨0, 1⟩ [2, 5, 6, 7, 21] keepR b_message_ParseLine_1 (envR (ws14 a0 a1 a2 a3 a4 a5 a6 a7 a8 a9 a10 a11 a12 a13) 7) (memR [.d (.str a0), .d (.str a2), .d (.str a1), .d (.str a3), .d (.str []), .d (.str a4), .d (.str []), I n5, I n6, I 0, I 0, I 0, I 0, I 0]) K := by
 refine LoopW.step g.lim ?_
 repeat' ((conv => whnf); first
 | refine Yz ?_
  | (refine In.enter (f := n_message_fields_9) g.lim rfl rfl ?_)
  | (refine Some'.ptr (by decide) ?_)
  | (refine CallI.of hs ?_)
  | (refine Need.mk ⟨rfl, by decide⟩ ?_)
  | (refine Cmp.b25 (fun h => ?_) (fun h => ?_))
  | (refine Br.not (fun hb => ?_) (fun hb => ?_))
  | (refine (hK _ _).mpr ?_)
  | (refine LoopW.to (ih (by assumption)) rfl rfl)
  | (refine Ret.mk (hF (by assumption))))
set_option maxHeartbeats 8000000 in
theorem rnd_R8 (a0 a1 a2 a3 a4 a5 a6 a7 a8 a9 a10 a11 a12 a13 : List UInt8) (n5 n6 n7 n8 : Int) {b : Bool} {K : Ex → Env → Mem → Prop} {R : V} (hK : ∀ e m, K .ret e m = resultsW m e [.cell 2 (some 14), .tmp 3, .tmp 4] fun v => thawW m v fun d => Ret d R) (hs : Fc E n_message_ParseMinute [S a8] (.tup [I n8, I (if b = true then 0 else 25)])) (hF : b = false → .tup [.d (.agg zeroL), I 8, I 25] = R)
  (ih : b = true → LoopW E ⟨0, 1⟩ [2, 5, 6, 7, 21] keepR b_message_ParseLine_1 (envR (ws14 a0 a1 a2 a3 a4 a5 a6 a7 a8 a9 a10 a11 a12 a13) 9) (memR [.d (.str a0), .d (.str a2), .d (.str a1), .d (.str a3), .d (.str []), .d (.str a4), .d (.str []), I n5, I n6, I n7, I n8, I 0, I 0, I 0]) K) : LoopW E ⟨0, 1⟩ [2, 5, 6, 7, 21] keepR b_message_ParseLine_1 (envR (ws14 a0 a1 a2 a3 a4 a5 a6 a7 a8 a9 a10 a11 a12 a13) 8) (memR [.d (.str a0), .d (.str a2), .d (.str a1), .d (.str a3), .d (.str []), .d (.str a4), .d (.str []), I n5, I n6, I n7, I 0, I 0, I 0, I 0]) K := by
 refine LoopW.step g.lim ?_
 repeat' ((conv => whnf); first
 | refine Yz ?_
  | (refine In.enter (f := n_message_fields_11) g.lim rfl rfl ?_)
  | (refine Some'.ptr (by decide) ?_)
  | (refine CallI.of hs ?_)
  | (refine Need.mk ⟨rfl, by decide⟩ ?_)
  | (refine Cmp.b25 (fun h => ?_) (fun h => ?_))
  | (refine Br.not (fun hb => ?_) (fun hb => ?_))
  | (refine (hK _ _).mpr ?_)
  | (refine LoopW.to (ih (by assumption)) rfl rfl)
  | (refine Ret.mk (hF (by assumption))))
set_option maxHeartbeats 8000000 in
theorem rnd_R9 (a0 a1 a2 a3 a4 a5 a6 a7 a8 a9 a10 a11 a12 a13 : List UInt8) (n5 n6 n7 n8 n9 : Int) {b : Bool} {K : Ex → Env → Mem → Prop} {R : V} (hK : ∀ e m, K .ret e m = resultsW m e [.cell 2 (some 14), .tmp 3, .tmp 4] fun v => thawW m v fun d => Ret d R) (hs : Fc E n_message_number [S a9, I 3] (.tup [I n9, B b])) (hF : b = false → .tup [.d (.agg zeroL), I 9, I 25] = R)
  (ih : b = true → LoopW E ⟨0, 1⟩ [2, 5, 6, 7, 21] keepR b_message_ParseLine_1 (envR (ws14 a0 a1 a2 a3 a4 a5 a6 a7 a8 a9 a10 a11 a12 a13) 10) (memR [.d (.str a0), .d (.str a2), .d (.str a1), .d (.str a3), .d (.str []), .d (.str a4), .d (.str []), I n5, I n6, I n7, I n8, I n9, I 0, I 0]) K) : LoopW E ⟨0, 1⟩ [2, 5, 6, 7, 21] keepR b_message_ParseLine_1 (envR (ws14 a0 a1 a2 a3 a4 a5 a6 a7 a8 a9 a10 a11 a12 a13) 9) (memR [.d (.str a0), .d (.str a2), .d (.str a1), .d (.str a3), .d (.str []), .d (.str a4), .d (.str []), I n5, I n6, I n7, I n8, I 0, I 0, I 0]) K := by
 refine LoopW.step g.lim ?_
 repeat' ((conv => whnf); first
 | refine Yz ?_
  | (refine In.enter (f := n_message_digits_2) g.lim rfl rfl ?_)
  | (refine In.enter (f := n_message_fields_12) g.lim rfl rfl ?_)
  | (refine Some'.ptr (by decide) ?_)
  | (refine CallI.of hs ?_)
  | (refine Need.mk ⟨rfl, by decide⟩ ?_)
  | (refine Br.not (fun hb => ?_) (fun hb => ?_))
  | (refine (hK _ _).mpr ?_)
  | (refine LoopW.to (ih (by assumption)) rfl rfl)
  | (refine Ret.mk (hF (by assumption))))
set_option maxHeartbeats 8000000 in
theorem rnd_R10 (a0 a1 a2 a3 a4 a5 a6 a7 a8 a9 a10 a11 a12 a13 : List UInt8) (n10 n5 n6 n7 n8 n9 : Int) {b : Bool} {K : Ex → Env → Mem → Prop} {R : V} (hK : ∀ e m, K .ret e m = resultsW m e [.cell 2 (some 14), .tmp 3, .tmp 4] fun v => thawW m v fun d => Ret d R) (hs : Fc E n_message_number [S a10, I 1] (.tup [I n10, B b])) (hF : b = false → .tup [.d (.agg zeroL), I 10, I 25] = R)
  (ih : b = true → LoopW E ⟨0, 1⟩ [2, 5, 6, 7, 21] keepR b_message_ParseLine_1 (envR (ws14 a0 a1 a2 a3 a4 a5 a6 a7 a8 a9 a10 a11 a12 a13) 11) (memR [.d (.str a0), .d (.str a2), .d (.str a1), .d (.str a3), .d (.str []), .d (.str a4), .d (.str []), I n5, I n6, I n7, I n8, I n9, I n10, I 0]) K) : LoopW E ⟨0, 1⟩ [2, 5, 6, 7, 21] keepR b_message_ParseLine_1 (envR (ws14 a0 a1 a2 a3 a4 a5 a6 a7 a8 a9 a10 a11 a12 a13) 10) (memR [.d (.str a0), .d (.str a2), .d (.str a1), .d (.str a3), .d (.str []), .d (.str a4), .d (.str []), I n5, I n6, I n7, I n8, I n9, I 0, I 0]) K := by
 refine LoopW.step g.lim ?_
 repeat' ((conv => whnf); first
 | refine Yz ?_
  | (refine In.enter (f := n_message_digits_2) g.lim rfl rfl ?_)
  | (refine In.enter (f := n_message_fields_13) g.lim rfl rfl ?_)
  | (refine Some'.ptr (by decide) ?_)
  | (refine CallI.of hs ?_)
  | (refine Need.mk ⟨rfl, by decide⟩ ?_)
  | (refine Br.not (fun hb => ?_) (fun hb => ?_))
  | (refine (hK _ _).mpr ?_)
  | (refine LoopW.to (ih (by assumption)) rfl rfl)
  | (refine Ret.mk (hF (by assumption))))
set_option maxHeartbeats 8000000 in
theorem rnd_R11 (a0 a1 a2 a3 a4 a5 a6 a7 a8 a9 a10 a11 a12 a13 : List UInt8) (n10 n11 n5 n6 n7 n8 n9 : Int) {b : Bool} {K : Ex → Env → Mem → Prop} {R : V} (hK : ∀ e m, K .ret e m = resultsW m e [.cell 2 (some 14), .tmp 3, .tmp 4] fun v => thawW m v fun d => Ret d R) (hs : Fc E n_message_number [S a11, I 2] (.tup [I n11, B b])) (hF : b = false → .tup [.d (.agg zeroL), I 11, I 25] = R)
  (ih : b = true → LoopW E ⟨0, 1⟩ [2, 5, 6, 7, 21] keepR b_message_ParseLine_1 (envR (ws14 a0 a1 a2 a3 a4 a5 a6 a7 a8 a9 a10 a11 a12 a13) 12) (memR [.d (.str a0), .d (.str a2), .d (.str a1), .d (.str a3), .d (.str []), .d (.str a4), .d (.str []), I n5, I n6, I n7, I n8, I n9, I n10, I n11]) K) : LoopW E ⟨0, 1⟩ [2, 5, 6, 7, 21] keepR b_message_ParseLine_1 (envR (ws14 a0 a1 a2 a3 a4 a5 a6 a7 a8 a9 a10 a11 a12 a13) 11) (memR [.d (.str a0), .d (.str a2), .d (.str a1), .d (.str a3), .d (.str []), .d (.str a4), .d (.str []), I n5, I n6, I n7, I n8, I n9, I n10, I 0]) K := by
 refine LoopW.step g.lim ?_
 repeat' ((conv => whnf); first
 | refine Yz ?_
  | (refine In.enter (f := n_message_digits_2) g.lim rfl rfl ?_)
  | (refine In.enter (f := n_message_fields_14) g.lim rfl rfl ?_)
  | (refine Some'.ptr (by decide) ?_)
  | (refine CallI.of hs ?_)
  | (refine Need.mk ⟨rfl, by decide⟩ ?_)
  | (refine Br.not (fun hb => ?_) (fun hb => ?_))
  | (refine (hK _ _).mpr ?_)
  | (refine LoopW.to (ih (by assumption)) rfl rfl)
  | (refine Ret.mk (hF (by assumption))))
set_option maxHeartbeats 8000000 in
theorem rnd_R12 (a0 a1 a2 a3 a4 a5 a6 a7 a8 a9 a10 a11 a12 a13 u12 : List UInt8) (n10 n11 n5 n6 n7 n8 n9 : Int) {b j : Bool} {K : Ex → Env → Mem → Prop} {R : V} (hK : ∀ e m, K .ret e m = resultsW m e [.cell 2 (some 14), .tmp 3, .tmp 4] fun v => thawW m v fun d => Ret d R) (hs : Fc E n_calendar_IsName [S a12] (B j)) (he : b = (decide (a12 = [45]) || j)) (hu : u12 = undash a12) (hF : b = false → .tup [.d (.agg zeroL), I 12, I 25] = R)
  (ih : b = true → LoopW E ⟨0, 1⟩ [2, 5, 6, 7, 21] keepR b_message_ParseLine_1 (envR (ws14 a0 a1 a2 a3 a4 a5 a6 a7 a8 a9 a10 a11 a12 a13) 13) (memR [.d (.str a0), .d (.str a2), .d (.str a1), .d (.str a3), .d (.str u12), .d (.str a4), .d (.str []), I n5, I n6, I n7, I n8, I n9, I n10, I n11]) K) : LoopW E ⟨0, 1⟩ [2, 5, 6, 7, 21] keepR b_message_ParseLine_1 (envR (ws14 a0 a1 a2 a3 a4 a5 a6 a7 a8 a9 a10 a11 a12 a13) 12) (memR [.d (.str a0), .d (.str a2), .d (.str a1), .d (.str a3), .d (.str []), .d (.str a4), .d (.str []), I n5, I n6, I n7, I n8, I n9, I n10, I n11]) K := by
 by_cases h : a12 = [45]
 ·have hb : b = true := by rw [he, decide_eq_true h]; rfl
  have hu' : u12 = [] := by rw [hu, undash, if_pos h]
  subst hb
  subst hu'
  refine LoopW.step g.lim ?_
  repeat' ((conv => whnf); first
  | refine Yz ?_
   | (refine In.enter (f := n_message_dashed_2) g.lim rfl rfl ?_)
   | (refine In.enter (f := n_message_fields_15) g.lim rfl rfl ?_)
   | (refine Some'.ptr (by decide) ?_)
   | (refine Need.mk ⟨rfl, by decide⟩ ?_)
   | (refine Cmp.tt h ?_)
   | (refine Br.not (fun hb => ?_) (fun hb => ?_))
   | (refine (hK _ _).mpr ?_)
   | (refine LoopW.to (ih rfl) rfl rfl)
   | (refine Ret.mk (hF (by assumption))))
 ·have hb : b = j := by rw [he, decide_eq_false h]; rfl
  have hu' : u12 = a12 := by rw [hu, undash, if_neg h]
  subst hb
  subst hu'
  refine LoopW.step g.lim ?_
  repeat' ((conv => whnf); first
  | refine Yz ?_
   | (refine In.enter (f := n_message_dashed_2) g.lim rfl rfl ?_)
   | (refine In.enter (f := n_message_fields_15) g.lim rfl rfl ?_)
   | (refine Some'.ptr (by decide) ?_)
   | (refine CallI.of hs ?_)
   | (refine Need.mk ⟨rfl, by decide⟩ ?_)
   | (refine Cmp.ff h ?_)
   | (refine Br.not (fun hb => ?_) (fun hb => ?_))
   | (refine (hK _ _).mpr ?_)
   | (refine LoopW.to (ih (by assumption)) rfl rfl)
   | (refine Ret.mk (hF (by assumption))))
set_option maxHeartbeats 8000000 in
theorem rnd_R13 (a0 a1 a2 a3 a4 a5 a6 a7 a8 a9 a10 a11 a12 a13 u12 u13 : List UInt8) (n10 n11 n5 n6 n7 n8 n9 : Int) {b j : Bool} {K : Ex → Env → Mem → Prop} {R : V} (hK : ∀ e m, K .ret e m = resultsW m e [.cell 2 (some 14), .tmp 3, .tmp 4] fun v => thawW m v fun d => Ret d R) (hs : Fc E n_calendar_IsName [S a13] (B j)) (he : b = (decide (a13 = [45]) || j)) (hu : u13 = undash a13) (hF : b = false → .tup [.d (.agg zeroL), I 13, I 25] = R)
  (ih : b = true → LoopW E ⟨0, 1⟩ [2, 5, 6, 7, 21] keepR b_message_ParseLine_1 (envR (ws14 a0 a1 a2 a3 a4 a5 a6 a7 a8 a9 a10 a11 a12 a13) 14) (memR [.d (.str a0), .d (.str a2), .d (.str a1), .d (.str a3), .d (.str u12), .d (.str a4), .d (.str u13), I n5, I n6, I n7, I n8, I n9, I n10, I n11]) K) : LoopW E ⟨0, 1⟩ [2, 5, 6, 7, 21] keepR b_message_ParseLine_1 (envR (ws14 a0 a1 a2 a3 a4 a5 a6 a7 a8 a9 a10 a11 a12 a13) 13) (memR [.d (.str a0), .d (.str a2), .d (.str a1), .d (.str a3), .d (.str u12), .d (.str a4), .d (.str []), I n5, I n6, I n7, I n8, I n9, I n10, I n11]) K := by
 by_cases h : a13 = [45]
 ·have hb : b = true := by rw [he, decide_eq_true h]; rfl
  have hu' : u13 = [] := by rw [hu, undash, if_pos h]
  subst hb
  subst hu'
  refine LoopW.step g.lim ?_
  repeat' ((conv => whnf); first
  | refine Yz ?_
   | (refine In.enter (f := n_message_dashed_2) g.lim rfl rfl ?_)
   | (refine In.enter (f := n_message_fields_16) g.lim rfl rfl ?_)
   | (refine Some'.ptr (by decide) ?_)
   | (refine Need.mk ⟨rfl, by decide⟩ ?_)
   | (refine Cmp.tt h ?_)
   | (refine Br.not (fun hb => ?_) (fun hb => ?_))
   | (refine (hK _ _).mpr ?_)
   | (refine LoopW.to (ih rfl) rfl rfl)
   | (refine Ret.mk (hF (by assumption))))
 ·have hb : b = j := by rw [he, decide_eq_false h]; rfl
  have hu' : u13 = a13 := by rw [hu, undash, if_neg h]
  subst hb
  subst hu'
  refine LoopW.step g.lim ?_
  repeat' ((conv => whnf); first
  | refine Yz ?_
   | (refine In.enter (f := n_message_dashed_2) g.lim rfl rfl ?_)
   | (refine In.enter (f := n_message_fields_16) g.lim rfl rfl ?_)
   | (refine Some'.ptr (by decide) ?_)
   | (refine CallI.of hs ?_)
   | (refine Need.mk ⟨rfl, by decide⟩ ?_)
   | (refine Cmp.ff h ?_)
   | (refine Br.not (fun hb => ?_) (fun hb => ?_))
   | (refine (hK _ _).mpr ?_)
   | (refine LoopW.to (ih (by assumption)) rfl rfl)
   | (refine Ret.mk (hF (by assumption))))
set_option maxHeartbeats 8000000 in
theorem core_ParseLine (s : List UInt8) (a0 a1 a2 a3 a4 a5 a6 a7 a8 a9 a10 a11 a12 a13 u12 u13 : List UInt8) (b0 b1 b2 b3 b4 b5 b6 b7 b8 b9 b10 b11 b12 b13 i12 i13 : Bool) (n5 n6 n7 n8 n9 n10 n11 c : Int)
  (sp : Fc E n_strings_Split [S s, S [32]] (.d (.list 14 [.str a0, .str a1, .str a2, .str a3, .str a4, .str a5, .str a6, .str a7, .str a8, .str a9, .str a10, .str a11, .str a12, .str a13])))
  (h0 : Fc E n_message_isAction [S a0] (B b0)) (h1 : Fc E n_calendar_IsName [S a1] (B b1)) (h2 : Fc E n_calendar_IsName [S a2] (B b2)) (h3 : Fc E n_message_isKind [S a3] (B b3)) (h4 : Fc E n_calendar_IsName [S a4] (B b4))
  (h5 : Fc E n_message_number [S a5, I 5] (.tup [I n5, B b5])) (h6 : Fc E n_message_number [S a6, I 5] (.tup [I n6, B b6]))
  (h7 : Fc E n_calendar_ParseMask [S a7] (.tup [I n7, I (if b7 = true then 0 else 25)])) (h8 : Fc E n_message_ParseMinute [S a8] (.tup [I n8, I (if b8 = true then 0 else 25)]))
  (h9 : Fc E n_message_number [S a9, I 3] (.tup [I n9, B b9])) (h10 : Fc E n_message_number [S a10, I 1] (.tup [I n10, B b10])) (h11 : Fc E n_message_number [S a11, I 2] (.tup [I n11, B b11]))
  (h12 : Fc E n_calendar_IsName [S a12] (B i12)) (h13 : Fc E n_calendar_IsName [S a13] (B i13))
  (e12 : b12 = (decide (a12 = [45]) || i12)) (v12 : u12 = undash a12) (e13 : b13 = (decide (a13 = [45]) || i13)) (v13 : u13 = undash a13)
  (hc : Fc E n_message_CheckLine [.d (.agg [.str a0, .str a2, .str a1, .str a3, .str u12, .str a4, .str u13, DI n5, DI n6, DI n7, DI n8, DI n9, DI n10, DI n11])] (I c)) : Fc E n_message_ParseLine [S s] (resF [b0, b1, b2, b3, b4, b5, b6, b7, b8, b9, b10, b11, b12, b13] [.str a0, .str a2, .str a1, .str a3, .str u12, .str a4, .str u13, DI n5, DI n6, DI n7, DI n8, DI n9, DI n10, DI n11] c) := by
 refine g.fn rfl rfl ?_
 repeat' ((conv => whnf); first
 | refine Yz ?_
  | (refine CallI.of sp ?_)
  | (refine CallS.fields g rfl ?_)
  | (refine Need.mk ⟨rfl, by decide⟩ ?_))
 refine LoopW.to (e1 := envR (ws14 a0 a1 a2 a3 a4 a5 a6 a7 a8 a9 a10 a11 a12 a13) 0) (m1 := memR [.d (.str []), .d (.str []), .d (.str []), .d (.str []), .d (.str []), .d (.str []), .d (.str []), I 0, I 0, I 0, I 0, I 0, I 0, I 0]) ?_ rfl rfl
 refine rnd_R0 g a0 a1 a2 a3 a4 a5 a6 a7 a8 a9 a10 a11 a12 a13 (fun _ _ => rfl) h0 (fun h => by subst h; rfl) (fun h => ?_)
 subst h
 refine rnd_R1 g a0 a1 a2 a3 a4 a5 a6 a7 a8 a9 a10 a11 a12 a13 (fun _ _ => rfl) h1 (fun h => by subst h; rfl) (fun h => ?_)
 subst h
 refine rnd_R2 g a0 a1 a2 a3 a4 a5 a6 a7 a8 a9 a10 a11 a12 a13 (fun _ _ => rfl) h2 (fun h => by subst h; rfl) (fun h => ?_)
 subst h
 refine rnd_R3 g a0 a1 a2 a3 a4 a5 a6 a7 a8 a9 a10 a11 a12 a13 (fun _ _ => rfl) h3 (fun h => by subst h; rfl) (fun h => ?_)
 subst h
 refine rnd_R4 g a0 a1 a2 a3 a4 a5 a6 a7 a8 a9 a10 a11 a12 a13 (fun _ _ => rfl) h4 (fun h => by subst h; rfl) (fun h => ?_)
 subst h
 refine rnd_R5 g a0 a1 a2 a3 a4 a5 a6 a7 a8 a9 a10 a11 a12 a13 n5 (fun _ _ => rfl) h5 (fun h => by subst h; rfl) (fun h => ?_)
 subst h
 refine rnd_R6 g a0 a1 a2 a3 a4 a5 a6 a7 a8 a9 a10 a11 a12 a13 n5 n6 (fun _ _ => rfl) h6 (fun h => by subst h; rfl) (fun h => ?_)
 subst h
 refine rnd_R7 g a0 a1 a2 a3 a4 a5 a6 a7 a8 a9 a10 a11 a12 a13 n5 n6 n7 (fun _ _ => rfl) h7 (fun h => by subst h; rfl) (fun h => ?_)
 subst h
 refine rnd_R8 g a0 a1 a2 a3 a4 a5 a6 a7 a8 a9 a10 a11 a12 a13 n5 n6 n7 n8 (fun _ _ => rfl) h8 (fun h => by subst h; rfl) (fun h => ?_)
 subst h
 refine rnd_R9 g a0 a1 a2 a3 a4 a5 a6 a7 a8 a9 a10 a11 a12 a13 n5 n6 n7 n8 n9 (fun _ _ => rfl) h9 (fun h => by subst h; rfl) (fun h => ?_)
 subst h
 refine rnd_R10 g a0 a1 a2 a3 a4 a5 a6 a7 a8 a9 a10 a11 a12 a13 n10 n5 n6 n7 n8 n9 (fun _ _ => rfl) h10 (fun h => by subst h; rfl) (fun h => ?_)
 subst h
 refine rnd_R11 g a0 a1 a2 a3 a4 a5 a6 a7 a8 a9 a10 a11 a12 a13 n10 n11 n5 n6 n7 n8 n9 (fun _ _ => rfl) h11 (fun h => by subst h; rfl) (fun h => ?_)
 subst h
 refine rnd_R12 g a0 a1 a2 a3 a4 a5 a6 a7 a8 a9 a10 a11 a12 a13 u12 n10 n11 n5 n6 n7 n8 n9 (fun _ _ => rfl) h12 e12 v12 (fun h => by subst h; rfl) (fun h => ?_)
 subst h
 refine rnd_R13 g a0 a1 a2 a3 a4 a5 a6 a7 a8 a9 a10 a11 a12 a13 u12 u13 n10 n11 n5 n6 n7 n8 n9 (fun _ _ => rfl) h13 e13 v13 (fun h => by subst h; rfl) (fun h => ?_)
 subst h
 refine LoopW.step g.lim ?_
 by_cases hz : c = 0
 ·subst hz
  repeat' ((conv => whnf); first
  | refine Yz ?_
   | (refine CallI.of hc ?_)
   | (refine Need.mk ⟨rfl, by decide⟩ ?_)
   | (refine Ret.mk rfl))
 ·repeat' ((conv => whnf); first
 | refine Yz ?_
   | (refine CallI.of hc ?_)
   | (refine Cmp.ff hz ?_)
   | (refine Need.mk ⟨rfl, by decide⟩ ?_)
   | (refine Ret.mk ?_))
  simp only [resF, firstF, if_true]
  rw [if_neg hz]
theorem s_ParseLine14 (s : List UInt8) (hs : s.length ≤ 1000000) (w : W14) (hp : parts 32 s = w.list) : Fc E n_message_ParseLine [S s] (resW w) := by
 have sp := s_Split g s hs
 rw [hp] at sp
 have m7 : Fc E n_calendar_ParseMask [S w.a7] (.tup [I (mskV w.a7), I (if decide (isMaskT w.a7) = true then 0 else 25)]) := by
  have := s_ParseMask g w.a7
  unfold mskV
  by_cases h : isMaskT w.a7
  ·rw [if_pos h] at this; rw [if_pos h, if_pos (decide_eq_true h)]; exact this
  ·rw [if_neg h] at this; rw [if_neg h, if_neg (by simpa using h)]; exact this
 have m8 : Fc E n_message_ParseMinute [S w.a8] (.tup [I (minW w.a8), I (if decide (minP w.a8) = true then 0 else 25)]) := by
  have := s_ParseMinute g w.a8
  unfold minW
  by_cases h : minP w.a8
  ·rw [if_pos h, if_pos h] at this; rw [if_pos h, if_pos (decide_eq_true h)]; exact this
  ·rw [if_neg h, if_neg h] at this; rw [if_neg h, if_neg (by simpa using h)]; exact this
 exact core_ParseLine g s w.a0 w.a1 w.a2 w.a3 w.a4 w.a5 w.a6 w.a7 w.a8 w.a9 w.a10 w.a11 w.a12 w.a13 (undash w.a12) (undash w.a13) _ _ _ _ _ _ _ _ _ _ _ _ (dfit w.a12) (dfit w.a13) _ _ _ _ _ _ _ _ _ _
  sp (s_isAction g w.a0) (s_IsName g w.a1) (s_IsName g w.a2) (s_isKind g w.a3) (s_IsName g w.a4) (s_number g w.a5 5 (by omega)) (s_number g w.a6 5 (by omega)) m7 m8 (s_number g w.a9 3 (by omega)) (s_number g w.a10 1 (by omega)) (s_number g w.a11 2 (by omega)) (s_IsName g w.a12) (s_IsName g w.a13) rfl rfl rfl rfl (s_CheckLine g w.line)
theorem s_ParseLine_no (s : List UInt8) (hs : s.length ≤ 1000000) (hp : (parts 32 s).length ≠ 14) : Fc E n_message_ParseLine [S s] (.tup [.d (.agg zeroL), I (if 13 < ((parts 32 s).length : Int) then 13 else ((parts 32 s).length : Int)), I 25]) := by
 refine g.fn rfl rfl ?_
 have sp := s_Split g s hs
 generalize parts 32 s = l at *
 by_cases h : 13 < (l.length : Int)
 ·rw [if_pos h]
  repeat' ((conv => whnf); first
  | refine Yz ?_
   | (apply CallI.of; assumption)
   | (refine Ret.mk ?_))
  rw [if_pos h]
 ·rw [if_neg h]
  repeat' ((conv => whnf); first
  | refine Yz ?_
   | (apply CallI.of; assumption)
   | (refine Ret.mk ?_))
  rw [if_neg h]
end
end Go.Proofs.YtlnlcdnpgjhaaacGreatDoor.Co
/-
 Messages: ParseMessage, by the program.
-/
namespace Go.Proofs.YtlnlcdnpgjhaaacGreatDoor.Co
open Go Go.Evl
theorem suffix_lf (s : List UInt8) : Lib.hasSuffix s [10] = wholeB s := by
 unfold Lib.hasSuffix wholeB
 rw [Bool.eq_iff_iff, List.isSuffixOf_iff_suffix, decide_eq_true_eq, List.getLast?_eq_some_iff]
 exact ⟨fun ⟨t, e⟩ => ⟨t, e.symm⟩, fun ⟨t, e⟩ => ⟨t, e.symm⟩⟩
theorem indexByte_lf : ∀ (a r : List UInt8), (10 : UInt8) ∉ a → Lib.indexByte (a ++ 10 :: r) 10 = a.length
 | [], _, _ => rfl
 | c :: a, r, h => by
  have hc : (c == 10) = false := beq_eq_false_iff_ne.2 fun e => h (by simp [e])
  have ih := indexByte_lf a r fun hm => h (by simp [hm])
  simp only [List.cons_append, Lib.indexByte, hc, ih, List.length_cons]
  rw [if_neg (by decide), if_neg (by simp)]
  omega
theorem indexByte_no : ∀ (a : List UInt8), (10 : UInt8) ∉ a → Lib.indexByte a 10 = -1
 | [], _ => rfl
 | c :: a, h => by
  have hc : (c == 10) = false := beq_eq_false_iff_ne.2 fun e => h (by simp [e])
  have ih := indexByte_no a fun hm => h (by simp [hm])
  simp only [Lib.indexByte, hc, ih]
  rfl
theorem endW_le (p : List UInt8) : (endW p).length ≤ p.length := by
 unfold endW
 split
 ·simp
 ·exact Nat.le_refl _
theorem endW_win {p : List UInt8} (h : wholeB p = true) : 1 ≤ p.length ∧ endW p = p.take (p.length - 1) := by
 have e := whole_eq h
 constructor
 ·rw [e]; simp
 ·unfold endW
  rw [if_pos h, List.dropLast_eq_take]
theorem headP_nw {p : List UInt8} (h : wholeB p = false) : headP p = none := by
 unfold headP
 split
 ·rw [if_neg (by rw [h]; simp)]
 ·rfl
theorem headP_len {p : List UInt8} (h : (parts 32 (endW p)).length ≠ 5) : headP p = none := by
 unfold headP
 split
 ·rename_i e; rw [e] at h; exact absurd rfl h
 ·rfl
theorem headP_five {p w0 w1 w2 w3 w4 : List UInt8} (h : parts 32 (endW p) = [w0, w1, w2, w3, w4]) : headP p = if wholeB p = true ∧ w0 = SLOTS ∧ msgB w1 = true ∧ numB w4 5 = true ∧ headE w2 w3 (valA 0 w4) = 0 then some ⟨w1, w2, w3, valA 0 w4, []⟩ else none := by
 unfold headP
 rw [h]
theorem list5 {l : List (List UInt8)} (h : l.length = 5) : ∃ a b c d e, l = [a, b, c, d, e] := by
 match l, h with
 | [a, b, c, d, e], _ => exact ⟨a, b, c, d, e, rfl⟩
section
variable {E : Oracle} (g : Good E)
include g
set_option maxRecDepth 100000
theorem s_CutLF (p : List UInt8) (hs : p.length ≤ 1000000) : Fc E n_strings_CutSuffix [S p, S [10]] (.tup [S (endW p), B (wholeB p)]) := by
 have h0 : Fc E n_internal_stringslite_HasSuffix [S p, S [10]] (B (wholeB p)) := Fc.extern g.lim (x := suffixX) rfl (v := B (wholeB p)) (m' := []) (by simp only [suffixX]; rw [if_pos hs, suffix_lf]) rfl
 have h1 : Fc E n_internal_stringslite_CutSuffix [S p, S [10]] (.tup [S (endW p), B (wholeB p)]) := by
  refine g.fn rfl rfl ?_
  cases hw : wholeB p
  ·rw [hw] at h0
   have e : endW p = p := by unfold endW; rw [hw]; rfl
   rw [e]
   repeat' ((conv => whnf); first
   | refine Yz ?_
    | (apply CallI.of; assumption)
    | (refine Ret.mk rfl))
  ·rw [hw] at h0
   obtain ⟨hl, e⟩ := endW_win hw
   have h10 : (([10] : List UInt8).length : Int) = 1 := rfl
   rw [e]
   repeat' ((conv => whnf); first
   | refine Yz ?_
    | (apply CallI.of; assumption)
    | (refine Bounds.mk (by omega) ?_)
    | (refine Ret.mk ?_))
   simp [win]
 refine g.fn rfl rfl ?_
 repeat' ((conv => whnf); first
 | refine Yz ?_
  | (apply CallI.of; assumption)
  | (refine Ret.mk rfl))
theorem s_IndexLF (s : List UInt8) : Fc E n_strings_IndexByte [S s, .d (.int .u8 10)] (I (Lib.indexByte s 10)) := by
 have h0 : Fc E n_internal_stringslite_IndexByte [S s, .d (.int .u8 10)] (I (Lib.indexByte s 10)) := Fc.extern g.lim (x := indexByteX) rfl (v := I (Lib.indexByte s 10)) (m' := []) rfl rfl
 refine g.fn rfl rfl ?_
 repeat' ((conv => whnf); first
 | refine Yz ?_
  | (apply CallI.of; assumption)
  | (refine Ret.mk rfl))
theorem s_lineP (s : List UInt8) (hs : s.length ≤ 1000000) : ∃ i : Int, Fc E n_message_ParseLine [S s] (.tup [Lnv (lineP s).1, I i, I (lineP s).2]) := by
 unfold lineP
 cases hw : wList (parts 32 s) with
 | none => exact ⟨_, s_ParseLine_no g s hs (wList_none hw)⟩
 | some w =>
  have h := s_ParseLine14 g s hs w (wList_some hw)
  unfold resW resF at h
  simp only
  unfold lineW
  split at h
  ·rename_i hf
   rw [if_pos hf]
   split at h
   ·rename_i hc; rw [if_pos hc]; exact ⟨_, h⟩
   ·rename_i hc; rw [if_neg hc]; exact ⟨_, h⟩
  ·rename_i hf
   rw [if_neg hf]
   exact ⟨_, h⟩
theorem s_texts (s : List UInt8) : In E 0 n_message_texts [S s] [] fun v m' => v = .fn n_message_texts_1 [] [.ptr ⟨0, 1, 0⟩ 0 0] ∧ m' = [(⟨0, 1, 0⟩, .cells ty_string [S s])] := by
 refine In.enter (f := n_message_texts) g.lim rfl rfl ?_
 repeat' ((conv => whnf); first
 | refine Yz ?_
  | (exact ⟨rfl, rfl⟩))
theorem CallS.texts {s : List UInt8} {cx : Cx} {slot : Nat} {m : Mem} {K : V → Mem → Prop} (hf : Go.Evl.freeK cx.lv slot m = 0) (h : K (.fn n_message_texts_1 [] [.ptr ⟨cx.lv, slot, 0⟩ 0 0]) (m ++ [(⟨cx.lv, slot, 0⟩, .cells ty_string [S s])])) : CallS E n_message_texts [S s] cx slot m K := by
 obtain ⟨v, m', h1, rfl, rfl⟩ := (s_texts g s).got
 refine ⟨_, _, (.fn n_message_texts_1 [] [.ptr ⟨cx.lv, slot, 0⟩ 0 0], m ++ [(⟨cx.lv, slot, 0⟩, .cells ty_string [S s])]), h1, ?_, h⟩
 unfold Go.Evl.settle
 rw [hf]
 rfl
def HeadV (v : V) (m' : Mem) (site : Nat) (h : Mst) (b : Bool) : Prop := v = .tup [.agg [S h.ki, S h.ai, S h.se, I h.da, .ref ⟨0, site, 0⟩ 0 0 0], B b] ∧ m' = [(⟨0, 2, 0⟩, .row false ty_message_Line 14 0 []), (⟨0, 2, 1⟩, .cells ty_message_Message [S h.ki, S h.ai, S h.se, I h.da, .ref ⟨0, site, 0⟩ 0 0 0]), (⟨0, site, 0⟩, .row false ty_message_Line 14 0 [])]
set_option maxHeartbeats 8000000 in
theorem s_head_none (p : List UInt8) (hs : p.length ≤ 1000000) (hn : headP p = none) : ∃ h : Mst, In E 0 n_message_head [S p] [] fun v m' => HeadV v m' 36 h false ∨ HeadV v m' 54 h false := by
 have hcut := s_CutLF g p hs
 have hsp := s_Split g (endW p) (Nat.le_trans (endW_le p) hs)
 cases hw : wholeB p
 ·rw [hw] at hcut
  refine ⟨zeroM, In.enter (f := n_message_head) g.lim rfl rfl ?_⟩
  repeat' ((conv => whnf); first
  | refine Yz ?_
   | (apply CallI.of; assumption)
   | (refine Cmp.tt (by simp only [List.length_cons, List.length_nil]; omega) ?_) | (refine Cmp.ff (by simp only [List.length_cons, List.length_nil]; omega) ?_)
   | (exact .inl ⟨rfl, rfl⟩))
 ·rw [hw] at hcut
  by_cases hl : (parts 32 (endW p)).length = 5
  ·obtain ⟨w0, w1, w2, w3, w4, he⟩ := list5 hl
   rw [headP_five he, hw] at hn
   rw [he] at hsp
   by_cases h0 : w0 = SLOTS
   ·have hm := s_isMessage g w1
    cases hm1 : msgB w1
    ·rw [hm1] at hm
     refine ⟨zeroM, In.enter (f := n_message_head) g.lim rfl rfl ?_⟩
     repeat' ((conv => whnf); first
     | refine Yz ?_
      | (apply CallI.of; assumption)
      | (refine Cmp.tt (by simp only [List.length_cons, List.length_nil]; omega) ?_) | (refine Cmp.ff (by simp only [List.length_cons, List.length_nil]; omega) ?_)
      | (refine Cmp.tt h0 ?_)
      | (exact .inl ⟨rfl, rfl⟩))
    ·rw [hm1] at hm
     have hnum := s_number g w4 5 (by omega)
     cases hn1 : numB w4 5
     ·rw [hn1] at hnum
      refine ⟨⟨w1, w2, w3, 0, []⟩, In.enter (f := n_message_head) g.lim rfl rfl ?_⟩
      repeat' ((conv => whnf); first
      | refine Yz ?_
       | (apply CallI.of; assumption)
       | (refine Cmp.tt (by simp only [List.length_cons, List.length_nil]; omega) ?_) | (refine Cmp.ff (by simp only [List.length_cons, List.length_nil]; omega) ?_)
       | (refine Cmp.tt h0 ?_)
       | (exact .inr ⟨rfl, rfl⟩))
     ·rw [hn1] at hnum
      have hd := s_checkHead g w2 w3 (valA 0 w4)
      have hz : headE w2 w3 (valA 0 w4) ≠ 0 := fun h => by
       rw [if_pos ⟨rfl, h0, hm1, hn1, h⟩] at hn
       cases hn
      refine ⟨⟨w1, w2, w3, valA 0 w4, []⟩, In.enter (f := n_message_head) g.lim rfl rfl ?_⟩
      repeat' ((conv => whnf); first
      | refine Yz ?_
       | (apply CallI.of; assumption)
       | (refine Cmp.tt (by simp only [List.length_cons, List.length_nil]; omega) ?_) | (refine Cmp.ff (by simp only [List.length_cons, List.length_nil]; omega) ?_)
       | (refine Cmp.tt h0 ?_)
       | (refine Cmp.ff hz ?_)
       | (exact .inr ⟨rfl, rfl⟩))
   ·refine ⟨zeroM, In.enter (f := n_message_head) g.lim rfl rfl ?_⟩
    repeat' ((conv => whnf); first
    | refine Yz ?_
     | (apply CallI.of; assumption)
     | (refine Cmp.tt (by simp only [List.length_cons, List.length_nil]; omega) ?_) | (refine Cmp.ff (by simp only [List.length_cons, List.length_nil]; omega) ?_)
     | (refine Cmp.ff h0 ?_)
     | (exact .inl ⟨rfl, rfl⟩))
  ·refine ⟨zeroM, In.enter (f := n_message_head) g.lim rfl rfl ?_⟩
   repeat' ((conv => whnf); first
   | refine Yz ?_
    | (apply CallI.of; assumption)
    | (refine Cmp.tt (by simp only [List.length_cons, List.length_nil]; omega) ?_) | (refine Cmp.ff (by simp only [List.length_cons, List.length_nil]; omega) ?_)
    | (exact .inl ⟨rfl, rfl⟩))
set_option maxHeartbeats 8000000 in
theorem s_head_some (p : List UInt8) (hs : p.length ≤ 1000000) (h : Mst) (hn : headP p = some h) : In E 0 n_message_head [S p] [] fun v m' => HeadV v m' 54 h true := by
 have hcut := s_CutLF g p hs
 have hsp := s_Split g (endW p) (Nat.le_trans (endW_le p) hs)
 have hl : (parts 32 (endW p)).length = 5 := Decidable.byContradiction fun hc => by rw [headP_len hc] at hn; cases hn
 obtain ⟨w0, w1, w2, w3, w4, he⟩ := list5 hl
 rw [headP_five he] at hn
 split at hn
 ·rename_i hc
  obtain ⟨hw, h0, hm1, hn1, hz⟩ := hc
  obtain rfl := Option.some.inj hn
  rw [hw] at hcut
  rw [he] at hsp
  have hm := s_isMessage g w1
  rw [hm1] at hm
  have hnum := s_number g w4 5 (by omega)
  rw [hn1] at hnum
  have hd := s_checkHead g w2 w3 (valA 0 w4)
  refine In.enter (f := n_message_head) g.lim rfl rfl ?_
  repeat' ((conv => whnf); first
  | refine Yz ?_
   | (apply CallI.of; assumption)
   | (refine Cmp.tt (by simp only [List.length_cons, List.length_nil]; omega) ?_) | (refine Cmp.ff (by simp only [List.length_cons, List.length_nil]; omega) ?_)
   | (refine Cmp.tt h0 ?_)
   | (refine Cmp.tt hz ?_)
   | (exact ⟨rfl, rfl⟩))
 ·cases hn
theorem CallS.head_none {p : List UInt8} (hs : p.length ≤ 1000000) (hn : headP p = none) {cx : Cx} {slot : Nat} {m : Mem} {K : V → Mem → Prop} (hf : Go.Evl.freeK cx.lv slot m = 0) (k : ∀ h : Mst, K (.tup [.agg [S h.ki, S h.ai, S h.se, I h.da, .ref ⟨cx.lv, slot, 0⟩ 0 0 0], B false]) (m ++ [(⟨cx.lv, slot, 0⟩, .row false ty_message_Line 14 0 [])])) : CallS E n_message_head [S p] cx slot m K := by
 obtain ⟨h, hh⟩ := s_head_none g p hs hn
 obtain ⟨v, m', h1, h2⟩ := hh.got
 rcases h2 with ⟨rfl, rfl⟩ | ⟨rfl, rfl⟩
 all_goals
  refine ⟨_, _, (.tup [.agg [S h.ki, S h.ai, S h.se, I h.da, .ref ⟨cx.lv, slot, 0⟩ 0 0 0], B false], m ++ [(⟨cx.lv, slot, 0⟩, .row false ty_message_Line 14 0 [])]), h1, ?_, k h⟩
  unfold Go.Evl.settle
  rw [hf]
  rfl
theorem CallS.head_some {p : List UInt8} (hs : p.length ≤ 1000000) {h : Mst} (hn : headP p = some h) {cx : Cx} {slot : Nat} {m : Mem} {K : V → Mem → Prop} (hf : Go.Evl.freeK cx.lv slot m = 0) (k : K (.tup [.agg [S h.ki, S h.ai, S h.se, I h.da, .ref ⟨cx.lv, slot, 0⟩ 0 0 0], B true]) (m ++ [(⟨cx.lv, slot, 0⟩, .row false ty_message_Line 14 0 [])])) : CallS E n_message_head [S p] cx slot m K := by
 obtain ⟨v, m', h1, rfl, rfl⟩ := (s_head_some g p hs h hn).got
 refine ⟨_, _, (.tup [.agg [S h.ki, S h.ai, S h.se, I h.da, .ref ⟨cx.lv, slot, 0⟩ 0 0 0], B true], m ++ [(⟨cx.lv, slot, 0⟩, .row false ty_message_Line 14 0 [])]), h1, ?_, k⟩
 unfold Go.Evl.settle
 rw [hf]
 rfl
end
open Go Go.Evl
theorem win_head (a r : List UInt8) : win (a ++ 10 :: r) 0 (a.length + 1 - 0) = a ++ [10] := by
 unfold win
 rw [List.drop_zero, Nat.sub_zero, show a ++ 10 :: r = (a ++ [10]) ++ r by simp, List.take_append_of_le_length (by simp), List.take_of_length_le (by simp)]
theorem win_tail (a r : List UInt8) : win (a ++ 10 :: r) (a.length + 1) ((a ++ 10 :: r).length - (a.length + 1)) = r := by
 unfold win
 rw [show a ++ 10 :: r = (a ++ [10]) ++ r by simp, List.drop_left' (by simp), List.take_of_length_le (by simp; omega)]
theorem parts_len (b : UInt8) : ∀ s : List UInt8, (parts b s).length ≤ s.length + 1
 | [] => by simp [parts]
 | x :: r => by
  have ih := parts_len b r
  rw [parts]
  split
  ·simp; omega
  ·split
   ·simp
   ·rename_i h; rw [h] at ih; simp only [List.length_cons] at ih ⊢; omega
theorem win_all (s : List UInt8) : win s 0 (s.length - 0) = s := by simp [win]
theorem LoopW.two {σ : Type} {E : Oracle} (g : Good E) {cx : Cx} {live : List Nat} {keep : List Evl.Id} {body : C} {K : Ex → Env → Mem → Prop} {e0 : Env} {m0 : Mem} (inv : σ → Prop) (env : σ → Env) (mem : σ → Mem) (μ : σ → Nat)
  (h : ∀ s, inv s → (∀ s', inv s' → μ s' < μ s → LoopW E cx live keep body (env s') (mem s') K) → wpC E cx body (env s) (mem s) (againK E cx live keep body K))
  (first : (∀ s, inv s → LoopW E cx live keep body (env s) (mem s) K) → LoopW E cx live keep body e0 m0 K) : LoopW E cx live keep body e0 m0 K := first (LoopW.by g inv env mem μ h)
theorem parseG_open {m : Mst} {i : Nat} {p : List UInt8} {r : List (List UInt8)} (h : wholeB p = false) : parseG m i (p :: r) = (zeroM, i, 25) := by
 rw [parseG, if_pos h]
theorem parseG_line {m : Mst} {i : Nat} {a w0 : List UInt8} {wr r : List (List UInt8)} (hp : parts 32 a = w0 :: wr) (h0 : w0 ≠ ENDW) : parseG m i ((a ++ [10]) :: r) = if (lineP a).2 ≠ 0 then (zeroM, i, (lineP a).2) else if 64 ≤ m.ls.length then (zeroM, i, 5) else parseG { m with ls := m.ls ++ [(lineP a).1] } (i + 1) r := by
 rw [parseG, (whole_lf _).1, (whole_lf _).2, if_neg (by decide), hp, if_pos (by simpa using h0)]
theorem parseG_bad {m : Mst} {i : Nat} {a : List UInt8} {wr r : List (List UInt8)} (hp : parts 32 a = ENDW :: wr) (hl : wr.length ≠ 1) : parseG m i ((a ++ [10]) :: r) = (zeroM, i, 25) := by
 rw [parseG, (whole_lf _).1, (whole_lf _).2, if_neg (by decide), hp, if_neg (by simp)]
 match wr, hl with
 | [], _ => rfl
 | _ :: _ :: _, _ => rfl
def parseO (a : Mst) (i : Nat) (s : List UInt8) : Mst × Nat × Int :=
 if s ≠ [] then (zeroM, i, 25) else if (chkLs a.ki none 0 a.ls).2 ≠ 0 then (zeroM, (chkLs a.ki none 0 a.ls).1 + 1, (chkLs a.ki none 0 a.ls).2) else (a, 0, 0)
theorem parseG_end {m : Mst} {i : Nat} {a x s : List UInt8} (hp : parts 32 a = [ENDW, x]) : parseG m i ((a ++ [10]) :: pcs s) = if numB x 2 = false then (zeroM, i, 25) else if valA 0 x ≠ m.ls.length then (zeroM, i, 27) else parseO m (i + 1) s := by
 rw [parseG, (whole_lf _).1, (whole_lf _).2, if_neg (by decide), hp, if_neg (by simp)]
 unfold parseO
 by_cases hs : s = []
 ·subst hs; simp [pcs_nil]
 ·have := pcs_ne hs
  simp only [hs, this, ne_eq, not_false_eq_true, if_true]
structure PSt where
 a : Mst
 i : Nat
 s : List UInt8
 ov : Bool
def PSt.res (st : PSt) : Mst × Nat × Int := if st.ov then parseO st.a st.i st.s else parseG st.a st.i (pcs st.s)
structure PSt.Inv (s0 : List UInt8) (st : PSt) : Prop where
 ln : st.a.ls.length ≤ 64
 pos : 1 ≤ st.i
 len : st.i + st.s.length ≤ s0.length
 res : st.res = parseM s0
theorem chkLs_le1 (kind : List UInt8) : ∀ (ls : List Lnt) (p : Option Lnt) (i : Nat), (chkLs kind p i ls).1 ≤ i + ls.length
 | [], p, i => by
  simp only [chkLs]
  split <;> simp
 | x :: r, p, i => by
  simp only [chkLs]
  split
  ·have := chkLs_le1 kind r (some x) (i + 1)
   simp only [List.length_cons]
   omega
  ·simp
theorem chkLs_le (kind : List UInt8) (ls : List Lnt) : (chkLs kind none 0 ls).1 ≤ ls.length := by
 have := chkLs_le1 kind ls none 0
 omega
theorem list_last {α : Type} (x : α) (l : List α) : ∃ y, (x :: l)[l.length]? = some y := ⟨_, List.getElem?_eq_getElem (by simp)⟩
section
variable {E : Oracle} (g : Good E)
include g
set_option maxRecDepth 100000
set_option maxHeartbeats 40000000 in
theorem s_ParseMessage (s0 : List UInt8) (hs0 : s0.length ≤ 1000000) : Fc E n_message_ParseMessage [S s0] (.tup [Msv (parseM s0).1, I ((parseM s0).2.1 : Nat), I (parseM s0).2.2]) := by
 refine g.fn rfl rfl ?_
 by_cases hl0 : 16384 < s0.length
 ·have hp : parseM s0 = (zeroM, 0, 26) := by unfold parseM; rw [if_pos hl0]
  rw [hp]
  repeat' ((conv => whnf); first
  | refine Yz ?_
   | (refine Ret.mk rfl))
 ·repeat' ((conv => whnf); first
 | refine Yz ?_
   | (refine CallS.texts g rfl ?_)
   | (refine In.enter (f := n_message_texts_1) g.lim rfl rfl ?_))
  refine LoopW.two g (PSt.Inv s0)
   (fun st => [(0, .yld ⟨0, 141, 0⟩), (1, .ptr ⟨0, 28, 0⟩ 0 0), (3, I st.i)])
   (fun st => [(⟨0, 2, 0⟩, .row false ty_message_Line 14 0 []), (⟨0, 2, 1⟩, .cells ty_message_Message [S [], S [], S [], I 0, .ref ⟨0, 2, 0⟩ 0 0 0]), (⟨0, 3, 0⟩, .cells ty_int [I 0]), (⟨0, 4, 0⟩, .cells ty_api_Errno [I 0]), (⟨0, 5, 0⟩, .row false ty_message_Line 14 0 []), (⟨0, 5, 1⟩, .cells ty_message_Message [S st.a.ki, S st.a.ai, S st.a.se, I st.a.da, .ref ⟨0, 76, 0⟩ 0 st.a.ls.length st.a.ls.length]), (⟨0, 6, 0⟩, .cells ty_int [I st.i]), (⟨0, 7, 0⟩, .cells ty_bool [B st.ov]), (⟨0, 28, 0⟩, .cells ty_string [S st.s]), (⟨0, 141, 0⟩, .loop [(2, .ptr ⟨0, 2, 1⟩ 0 0), (3, .ptr ⟨0, 3, 0⟩ 0 0), (4, .ptr ⟨0, 4, 0⟩ 0 0), (25, B false), (5, .ptr ⟨0, 5, 1⟩ 0 0), (6, .ptr ⟨0, 6, 0⟩ 0 0), (7, .ptr ⟨0, 7, 0⟩ 0 0), (28, .fn n_message_texts_1 [] [.ptr ⟨0, 28, 0⟩ 0 0])] [29, 30] b_message_ParseMessage_1 b_message_ParseMessage_2 0 false false none), (⟨0, 76, 0⟩, .row false ty_message_Line 14 st.a.ls.length (st.a.ls.flatMap Lnt.cells))])
   (fun st => st.s.length) ?_ ?_
  ·rintro ⟨⟨ki, ai, se, da, ls⟩, i, s, ov⟩ ⟨i1, i2, i3, i4⟩ ih
   simp only [PSt.res] at i1 i2 i3 i4 ih
   dsimp only
   by_cases hs : s = []
   ·subst hs
    cases ov
    ·rw [if_neg (by decide), pcs_nil, parseG] at i4
     rw [← i4]
     repeat' ((conv => whnf); first
     | refine Yz ?_
      | (refine Need.mk ⟨rfl, by simp⟩ ?_)
      | (refine Ret.mk rfl))
    ·rw [if_pos rfl, parseO, if_neg (by simp)] at i4
     have hcl : ∀ {n : Nat} {cs : List D}, n = ls.length → cs = ls.flatMap Lnt.cells → Fc E n_message_checkLines [S ki, .d (.list n cs)] (.tup [I ((chkLs ki none 0 ls).1 : Nat), I (chkLs ki none 0 ls).2]) := by
      rintro _ _ rfl rfl
      exact s_checkLines g ki ls (by omega)
     by_cases hc : (chkLs ki none 0 ls).2 = 0
     ·rw [if_neg (by simp [hc])] at i4
      rw [← i4]
      generalize chkLs ki none 0 ls = c at *
      repeat' ((conv => whnf); first
      | refine Yz ?_
       | (refine Need.mk ⟨rfl, by simp⟩ ?_)
       | (refine CallI.of (hcl rfl (by simp)) ?_)
       | (refine Cmp.tt hc ?_)
       | (refine Ret.mk ?_))
      rw [if_pos ⟨rfl, rfl⟩]
      rfl
     ·rw [if_pos hc] at i4
      rw [← i4]
      have hb := chkLs_le ki ls
      generalize chkLs ki none 0 ls = c at *
      repeat' ((conv => whnf); first
      | refine Yz ?_
       | (refine Need.mk ⟨rfl, by simp⟩ ?_)
       | (refine CallI.of (hcl rfl (by simp)) ?_)
       | (refine Cmp.ff hc ?_)
       | (refine Ret.mk rfl))
   ·rcases pcs_cases s hs with ⟨hn, hp⟩ | ⟨a, r, hn, rfl, hp⟩
    ·have hw : wholeB s = false := decide_eq_false fun e => by
      obtain ⟨t, e⟩ := List.getLast?_eq_some_iff.1 e
      exact hn (by rw [e]; simp)
     have he : endW s = s := by unfold endW; rw [hw]; rfl
     have hv : parseM s0 = (zeroM, i, 25) := by
      rw [← i4]
      cases ov
      ·rw [if_neg (by decide), hp, parseG_open hw]
      ·rw [if_pos rfl, parseO, if_pos hs]
     rw [hv]
     have hx := s_IndexLF g s
     rw [indexByte_no s hn] at hx
     have hcut := s_CutLF g s (by omega)
     rw [hw, he] at hcut
     have hsp := s_Split g s (by omega)
     have hpos : s.length ≠ 0 := fun e => hs (List.length_eq_zero_iff.1 e)
     repeat' ((conv => whnf); first
     | refine Yz ?_
      | (refine Need.mk ⟨rfl, by simp⟩ ?_)
      | (apply CallI.of; assumption)
      | (refine Rnd.enter g.lim ?_)
      | (refine Bounds.at 0 s.length (by omega) (by omega) (by omega) ?_ <;> (try dsimp only) <;> (rw [win_all]))
      | (refine Cmp.ff hs ?_)
      | (refine Ret.mk rfl))
    ·have hlen : (a ++ 10 :: r).length = a.length + (r.length + 1) := by simp
     have hx := s_IndexLF g (a ++ 10 :: r)
     rw [indexByte_lf a r hn] at hx
     have hcut := s_CutLF g (a ++ [10]) (by simp; omega)
     rw [(whole_lf _).1, (whole_lf _).2] at hcut
     have hsp := s_Split g a (by omega)
     cases ov
     ·rw [if_neg (by decide), hp] at i4
      cases hpa : parts 32 a with
      | nil => exact absurd hpa (parts_ne 32 a)
      | cons w0 wr =>
       rw [hpa] at hsp
       by_cases h0 : w0 = ENDW
       ·subst h0
        by_cases hwr : wr.length = 1
        ·obtain ⟨x, rfl⟩ := List.length_eq_one_iff.1 hwr
         rw [parseG_end hpa] at i4
         have hnum := s_number g x 2 (by omega)
         have h2l : (([ENDW, x] : List (List UInt8)).length : Int) = 2 := rfl
         cases hnb : numB x 2
         ·rw [hnb] at hnum i4
          rw [if_pos rfl] at i4
          rw [← i4]
          repeat' ((conv => whnf); first
          | refine Yz ?_
           | (refine Need.mk ⟨rfl, by simp⟩ ?_)
           | (apply CallI.of; assumption)
           | (refine Rnd.enter g.lim ?_)
           | (refine Bounds.at 0 (a.length + 1) (by omega) (by omega) (by omega) ?_ <;> (try dsimp only) <;> (rw [win_head]))
           | (refine Bounds.at (a.length + 1) (a ++ 10 :: r).length (by omega) (by omega) (by omega) ?_ <;> (try dsimp only) <;> (rw [win_tail]))
           | (refine Cmp.ff hs ?_)
           | (refine CallI.of (s_mwhen g _ _) ?_)
           | (refine CallI.of (s_mfirst2 g _ _) ?_)
           | (refine Pick.now rfl ?_)
           | (refine Ret.mk rfl)
           | (refine Cmp.tt (by simp only [List.length_cons, List.length_nil]; omega) ?_) | (refine Cmp.ff (by simp only [List.length_cons, List.length_nil]; omega) ?_)
           | (refine Cmp.mk (fun h => ?_) (fun h => ?_)) | (refine Rem.any (by omega) (fun r hr he => ?_)) | (refine Br.mk (fun h => ?_) (fun h => ?_))
           | (exfalso; omega))
         ·rw [hnb] at hnum i4
          rw [if_neg (by decide)] at i4
          by_cases hcn : valA 0 x = ls.length
          ·rw [if_neg (by simpa using hcn)] at i4
           have ih := ih ⟨⟨ki, ai, se, da, ls⟩, i + 1, r, true⟩ ⟨i1, by simp only; omega, by simp only; omega, i4⟩ (by simp only; omega)
           repeat' ((conv => whnf); first
           | refine Yz ?_
            | (refine Need.mk ⟨rfl, by simp⟩ ?_)
            | (apply CallI.of; assumption)
            | (refine Rnd.enter g.lim ?_)
            | (refine Bounds.at 0 (a.length + 1) (by omega) (by omega) (by omega) ?_ <;> (try dsimp only) <;> (rw [win_head]))
            | (refine Bounds.at (a.length + 1) (a ++ 10 :: r).length (by omega) (by omega) (by omega) ?_ <;> (try dsimp only) <;> (rw [win_tail]))
            | (refine Cmp.ff hs ?_)
            | (refine Cmp.tt hcn ?_)
            | (refine CallI.of (s_mwhen g _ _) ?_)
            | (refine CallI.of (s_mfirst2 g _ _) ?_)
            | (refine Pick.now rfl ?_)
            | (refine LoopW.to ih rfl rfl)
            | (refine Cmp.tt (by simp only [List.length_cons, List.length_nil]; omega) ?_) | (refine Cmp.ff (by simp only [List.length_cons, List.length_nil]; omega) ?_)
            | (exfalso; omega))
          ·rw [if_pos (by simpa using hcn)] at i4
           rw [← i4]
           repeat' ((conv => whnf); first
           | refine Yz ?_
            | (refine Need.mk ⟨rfl, by simp⟩ ?_)
            | (apply CallI.of; assumption)
            | (refine Rnd.enter g.lim ?_)
            | (refine Bounds.at 0 (a.length + 1) (by omega) (by omega) (by omega) ?_ <;> (try dsimp only) <;> (rw [win_head]))
            | (refine Bounds.at (a.length + 1) (a ++ 10 :: r).length (by omega) (by omega) (by omega) ?_ <;> (try dsimp only) <;> (rw [win_tail]))
            | (refine Cmp.ff hs ?_)
            | (refine Cmp.ff hcn ?_)
            | (refine CallI.of (s_mwhen g _ _) ?_)
            | (refine CallI.of (s_mfirst2 g _ _) ?_)
            | (refine Pick.now rfl ?_)
            | (refine Ret.mk rfl)
            | (refine Cmp.tt (by simp only [List.length_cons, List.length_nil]; omega) ?_) | (refine Cmp.ff (by simp only [List.length_cons, List.length_nil]; omega) ?_)
            | (exfalso; omega))
        ·rw [parseG_bad hpa hwr] at i4
         rw [← i4]
         obtain ⟨y, hy⟩ := list_last (ENDW) wr
         have hnum := s_number g y 2 (by omega)
         have hpk : ((ENDW :: wr).map D.str)[(((ENDW :: wr).length : Int) - 1).toNat * 1]? = some (.str y) := by
          rw [show (((ENDW :: wr).length : Int) - 1).toNat * 1 = wr.length by simp only [List.length_cons]; omega, List.getElem?_map, hy]; rfl
         have hl2 : ¬ (((ENDW :: wr).length : Int) = 2) := by simp only [List.length_cons]; omega
         have hl3 : (ENDW :: wr).length = wr.length + 1 := rfl
         have hl4 : (ENDW :: wr).length ≤ a.length + 1 := by rw [← hpa]; exact parts_len 32 a
         repeat' ((conv => whnf); first
         | refine Yz ?_
          | (refine Need.mk ⟨rfl, by simp⟩ ?_)
          | (apply CallI.of; assumption)
          | (refine Rnd.enter g.lim ?_)
          | (refine Bounds.at 0 (a.length + 1) (by omega) (by omega) (by omega) ?_ <;> (try dsimp only) <;> (rw [win_head]))
          | (refine Bounds.at (a.length + 1) (a ++ 10 :: r).length (by omega) (by omega) (by omega) ?_ <;> (try dsimp only) <;> (rw [win_tail]))
          | (refine Cmp.ff hs ?_)
          | (refine Cmp.ff hl2 ?_)
          | (refine CallI.of (s_mwhen g _ _) ?_)
          | (refine CallI.of (s_mfirst2 g _ _) ?_)
          | (refine Pick.now hpk ?_)
          | (refine Pick.now rfl ?_)
          | (refine Cmp.mk (fun h => ?_) (fun h => ?_)) | (refine Rem.any (by omega) (fun r hr he => ?_)) | (refine Br.mk (fun h => ?_) (fun h => ?_))
          | (refine Ret.mk rfl))
       ·rw [parseG_line hpa h0] at i4
        obtain ⟨j, hpl⟩ := s_lineP g a (by omega)
        generalize lineP a = q at *
        obtain ⟨x, e⟩ := q
        simp only at hpl i4
        by_cases he : e = 0
        ·subst he
         rw [if_neg (by simp)] at i4
         by_cases h64 : 64 ≤ ls.length
         ·rw [if_pos h64] at i4
          rw [← i4]
          repeat' ((conv => whnf); first
          | refine Yz ?_
           | (refine Need.mk ⟨rfl, by simp⟩ ?_)
           | (apply CallI.of; assumption)
           | (refine Rnd.enter g.lim ?_)
           | (refine Bounds.at 0 (a.length + 1) (by omega) (by omega) (by omega) ?_ <;> (try dsimp only) <;> (rw [win_head]))
           | (refine Bounds.at (a.length + 1) (a ++ 10 :: r).length (by omega) (by omega) (by omega) ?_ <;> (try dsimp only) <;> (rw [win_tail]))
           | (refine Cmp.ff hs ?_)
           | (refine Cmp.ff h0 ?_)
           | (refine CallI.of (s_mwhen g _ _) ?_)
           | (refine CallI.of (s_mfirst2 g _ _) ?_)
           | (refine Pick.now rfl ?_)
           | (refine Ret.mk rfl))
         ·rw [if_neg h64] at i4
          have ih := ih ⟨⟨ki, ai, se, da, ls ++ [x]⟩, i + 1, r, false⟩ ⟨by simp; omega, by simp only; omega, by simp only; omega, i4⟩ (by simp only; omega)
          have e1 : (ls ++ [x]).length = ls.length + 1 := by simp
          have e2 : (ls ++ [x]).flatMap Lnt.cells = ls.flatMap Lnt.cells ++ x.cells := by simp
          dsimp only at ih
          rw [e1, e2] at ih
          have hfl := flatR_length Lnt.cells 14 Lnt.cells_length ls
          repeat' ((conv => whnf); first
          | refine Yz ?_
           | (refine Need.mk ⟨rfl, by simp⟩ ?_)
           | (apply CallI.of; assumption)
           | (refine Rnd.enter g.lim ?_)
           | (refine Bounds.at 0 (a.length + 1) (by omega) (by omega) (by omega) ?_ <;> (try dsimp only) <;> (rw [win_head]))
           | (refine Bounds.at (a.length + 1) (a ++ 10 :: r).length (by omega) (by omega) (by omega) ?_ <;> (try dsimp only) <;> (rw [win_tail]))
           | (refine Cmp.ff hs ?_)
           | (refine Cmp.ff h0 ?_)
           | (refine CallI.of (s_mwhen g _ _) ?_)
           | (refine CallI.of (s_mfirst2 g _ _) ?_)
           | (refine Pick.now rfl ?_)
           | (refine Need.mk (by simp; omega) ?_)
           | (refine LoopW.to ih rfl rfl))
        ·rw [if_pos he] at i4
         rw [← i4]
         have hne : ∀ z, firstI [e, z] = e := fun z => by simp [firstI, he]
         have hfst : ∀ z, Fc E n_message_first [.d (.list 2 [DI e, DI z])] (I e) := fun z => by
          have := s_mfirst2 g e z
          rw [hne] at this
          exact this
         repeat' ((conv => whnf); first
         | refine Yz ?_
          | (refine Need.mk ⟨rfl, by simp⟩ ?_)
          | (apply CallI.of; assumption)
          | (refine Rnd.enter g.lim ?_)
          | (refine Bounds.at 0 (a.length + 1) (by omega) (by omega) (by omega) ?_ <;> (try dsimp only) <;> (rw [win_head]))
          | (refine Bounds.at (a.length + 1) (a ++ 10 :: r).length (by omega) (by omega) (by omega) ?_ <;> (try dsimp only) <;> (rw [win_tail]))
          | (refine Cmp.ff hs ?_)
          | (refine Cmp.ff h0 ?_)
          | (refine CallI.of (s_mwhen g _ _) ?_)
          | (refine CallI.of (hfst _) ?_)
          | (refine Pick.now rfl ?_)
          | (refine Cmp.ff he ?_)
          | (refine Cmp.mk (fun h => ?_) (fun h => ?_)) | (refine Rem.any (by omega) (fun r hr he => ?_)) | (refine Br.mk (fun h => ?_) (fun h => ?_))
          | (refine Ret.mk rfl))
     ·rw [if_pos rfl, parseO, if_pos hs] at i4
      rw [← i4]
      repeat' ((conv => whnf); first
      | refine Yz ?_
       | (refine Need.mk ⟨rfl, by simp⟩ ?_)
       | (apply CallI.of; assumption)
       | (refine Rnd.enter g.lim ?_)
       | (refine Bounds.at 0 (a.length + 1) (by omega) (by omega) (by omega) ?_ <;> (try dsimp only) <;> (rw [win_head]))
       | (refine Bounds.at (a.length + 1) (a ++ 10 :: r).length (by omega) (by omega) (by omega) ?_ <;> (try dsimp only) <;> (rw [win_tail]))
       | (refine Cmp.ff hs ?_)
       | (refine Ret.mk rfl))
  ·intro main
   refine LoopW.step g.lim ?_
   by_cases hs : s0 = []
   ·subst hs
    have hp : parseM [] = (zeroM, 0, 28) := rfl
    rw [hp]
    repeat' ((conv => whnf); first
    | refine Yz ?_
     | (refine Need.mk ⟨rfl, by simp⟩ ?_)
     | (refine Ret.mk rfl))
   ·rcases pcs_cases s0 hs with ⟨hn, hp⟩ | ⟨a, r, hn, rfl, hp⟩
    ·have hw : wholeB s0 = false := decide_eq_false fun e => by
      obtain ⟨t, e⟩ := List.getLast?_eq_some_iff.1 e
      exact hn (by rw [e]; simp)
     have he : endW s0 = s0 := by unfold endW; rw [hw]; rfl
     have hh := headP_nw hw
     have hv : parseM s0 = (zeroM, 0, 25) := by
      unfold parseM
      rw [if_neg hl0, hp]
      simp only [hh]
     rw [hv]
     have hx := s_IndexLF g s0
     rw [indexByte_no s0 hn] at hx
     have hcut := s_CutLF g s0 (by omega)
     rw [hw, he] at hcut
     have hsp := s_Split g s0 (by omega)
     have hpos : s0.length ≠ 0 := fun e => hs (List.length_eq_zero_iff.1 e)
     repeat' ((conv => whnf); first
     | refine Yz ?_
      | (refine Need.mk ⟨rfl, by simp⟩ ?_)
      | (apply CallI.of; assumption)
      | (refine Rnd.enter g.lim ?_)
      | (refine Bounds.at 0 s0.length (by omega) (by omega) (by omega) ?_ <;> (try dsimp only) <;> (rw [win_all]))
      | (refine Cmp.ff hs ?_)
      | (refine CallS.head_none g hs0 hh rfl (fun h => ?_))
      | (refine Ret.mk rfl))
    ·have hlen : (a ++ 10 :: r).length = a.length + (r.length + 1) := by simp
     have hx := s_IndexLF g (a ++ 10 :: r)
     rw [indexByte_lf a r hn] at hx
     have hpl : (a ++ [10]).length ≤ 1000000 := by simp; omega
     have hcut := s_CutLF g (a ++ [10]) hpl
     rw [(whole_lf _).1, (whole_lf _).2] at hcut
     have hsp := s_Split g a (by omega)
     cases hh : headP (a ++ [10]) with
     | none =>
      have hv : parseM (a ++ 10 :: r) = (zeroM, 0, 25) := by
       unfold parseM
       rw [if_neg hl0, hp]
       simp only [hh]
      rw [hv]
      repeat' ((conv => whnf); first
      | refine Yz ?_
       | (refine Need.mk ⟨rfl, by simp⟩ ?_)
       | (apply CallI.of; assumption)
       | (refine Rnd.enter g.lim ?_)
       | (refine Bounds.at 0 (a.length + 1) (by omega) (by omega) (by omega) ?_ <;> (try dsimp only) <;> (rw [win_head]))
       | (refine Bounds.at (a.length + 1) (a ++ 10 :: r).length (by omega) (by omega) (by omega) ?_ <;> (try dsimp only) <;> (rw [win_tail]))
       | (refine Cmp.ff hs ?_)
       | (refine CallS.head_none g hpl hh rfl (fun h => ?_))
       | (refine Ret.mk rfl))
     | some h =>
      have hls := (headP_strict hh).1
      obtain ⟨ki, ai, se, da, ls⟩ := h
      simp only at hls
      subst hls
      have hv : parseM (a ++ 10 :: r) = parseG ⟨ki, ai, se, da, []⟩ 1 (pcs r) := by
       unfold parseM
       rw [if_neg hl0, hp]
       simp only [hh]
      have ih := main ⟨⟨ki, ai, se, da, []⟩, 1, r, false⟩ ⟨by simp, by simp, by simp only; omega, by rw [hv]; rfl⟩
      repeat' ((conv => whnf); first
      | refine Yz ?_
       | (refine Need.mk ⟨rfl, by simp⟩ ?_)
       | (apply CallI.of; assumption)
       | (refine Rnd.enter g.lim ?_)
       | (refine Bounds.at 0 (a.length + 1) (by omega) (by omega) (by omega) ?_ <;> (try dsimp only) <;> (rw [win_head]))
       | (refine Bounds.at (a.length + 1) (a ++ 10 :: r).length (by omega) (by omega) (by omega) ?_ <;> (try dsimp only) <;> (rw [win_tail]))
       | (refine Cmp.ff hs ?_)
       | (refine CallS.head_some g hpl hh rfl ?_)
       | (refine LoopW.to ih rfl rfl))
end
end Go.Proofs.YtlnlcdnpgjhaaacGreatDoor.Co
/-
 Messages: how the program prints a line, field by field.
-/
namespace Go.Proofs.YtlnlcdnpgjhaaacGreatDoor.Co
open Go Go.Evl
abbrev envP (k : Nat) (i : Int) : Env := [(1, .ptr ⟨0, 1, 0⟩ 0 0), (3, .ref ⟨0, 3, 0⟩ 0 k k), (6, .agg (fldV 0 6)), (7, I i)]
abbrev memP (l : Lnt) (k : Nat) (xs : List D) : Mem := (⟨0, 1, 0⟩, .cells ty_message_Line [.d (.str l.ac), .d (.str l.rq.nm), .d (.str l.rq.ca), .d (.str l.rq.ki), .d (.str l.rq.te), .d (.str l.rq.pa), .d (.str l.rq.li), I l.rq.fr, I l.rq.to, I l.rq.da, I l.rq.mi, I l.rq.se, I l.rq.si, I l.rq.no]) :: (⟨0, 3, 0⟩, .row false ty_string 1 k xs) :: fldM 0 6
abbrev keepP : List Evl.Id := [⟨0, 1, 0⟩, ⟨0, 3, 0⟩, ⟨0, 6, 0⟩, ⟨0, 6, 1⟩, ⟨0, 6, 2⟩, ⟨0, 6, 3⟩, ⟨0, 6, 4⟩, ⟨0, 6, 5⟩, ⟨0, 6, 6⟩, ⟨0, 6, 7⟩, ⟨0, 6, 8⟩, ⟨0, 6, 9⟩, ⟨0, 6, 10⟩, ⟨0, 6, 11⟩, ⟨0, 6, 12⟩, ⟨0, 6, 13⟩, ⟨0, 6, 14⟩, ⟨0, 6, 15⟩, ⟨0, 6, 16⟩, ⟨0, 6, 17⟩, ⟨0, 6, 18⟩, ⟨0, 6, 19⟩, ⟨0, 6, 20⟩, ⟨0, 6, 21⟩]
section
variable {E : Oracle} (g : Good E)
include g
set_option maxRecDepth 100000
set_option maxHeartbeats 8000000 in
theorem rnd_P0 (l : Lnt) (xs : List D)  {K : Ex → Env → Mem → Prop} (ih : LoopW E ⟨0, 1⟩ [1, 3, 6, 7] keepP b_message_printLine_1 (envP 1 1) (memP l 1 (xs ++ [.str l.ac])) K) : LoopW E ⟨0, 1⟩ [1, 3, 6, 7] keepP b_message_printLine_1 (envP 0 0) (memP l 0 xs) K := by
 refine LoopW.step g.lim ?_
 repeat' ((conv => whnf); first
 | refine Yz ?_
  | (refine In.enter (f := n_message_text_1) g.lim rfl rfl ?_)
  | (refine In.enter (f := n_message_fields_1) g.lim rfl rfl ?_)
  | (refine Some'.ptr (by decide) ?_)
  | (refine Need.mk ⟨rfl, by decide⟩ ?_)
  | (refine LoopW.to ih rfl rfl))
set_option maxHeartbeats 8000000 in
theorem rnd_P1 (l : Lnt) (xs : List D)  {K : Ex → Env → Mem → Prop} (ih : LoopW E ⟨0, 1⟩ [1, 3, 6, 7] keepP b_message_printLine_1 (envP 2 2) (memP l 2 (xs ++ [.str l.rq.ca])) K) : LoopW E ⟨0, 1⟩ [1, 3, 6, 7] keepP b_message_printLine_1 (envP 1 1) (memP l 1 xs) K := by
 refine LoopW.step g.lim ?_
 repeat' ((conv => whnf); first
 | refine Yz ?_
  | (refine In.enter (f := n_message_text_1) g.lim rfl rfl ?_)
  | (refine In.enter (f := n_message_fields_2) g.lim rfl rfl ?_)
  | (refine Some'.ptr (by decide) ?_)
  | (refine Need.mk ⟨rfl, by decide⟩ ?_)
  | (refine LoopW.to ih rfl rfl))
set_option maxHeartbeats 8000000 in
theorem rnd_P2 (l : Lnt) (xs : List D)  {K : Ex → Env → Mem → Prop} (ih : LoopW E ⟨0, 1⟩ [1, 3, 6, 7] keepP b_message_printLine_1 (envP 3 3) (memP l 3 (xs ++ [.str l.rq.nm])) K) : LoopW E ⟨0, 1⟩ [1, 3, 6, 7] keepP b_message_printLine_1 (envP 2 2) (memP l 2 xs) K := by
 refine LoopW.step g.lim ?_
 repeat' ((conv => whnf); first
 | refine Yz ?_
  | (refine In.enter (f := n_message_text_1) g.lim rfl rfl ?_)
  | (refine In.enter (f := n_message_fields_3) g.lim rfl rfl ?_)
  | (refine Some'.ptr (by decide) ?_)
  | (refine Need.mk ⟨rfl, by decide⟩ ?_)
  | (refine LoopW.to ih rfl rfl))
set_option maxHeartbeats 8000000 in
theorem rnd_P3 (l : Lnt) (xs : List D)  {K : Ex → Env → Mem → Prop} (ih : LoopW E ⟨0, 1⟩ [1, 3, 6, 7] keepP b_message_printLine_1 (envP 4 4) (memP l 4 (xs ++ [.str l.rq.ki])) K) : LoopW E ⟨0, 1⟩ [1, 3, 6, 7] keepP b_message_printLine_1 (envP 3 3) (memP l 3 xs) K := by
 refine LoopW.step g.lim ?_
 repeat' ((conv => whnf); first
 | refine Yz ?_
  | (refine In.enter (f := n_message_text_1) g.lim rfl rfl ?_)
  | (refine In.enter (f := n_message_fields_4) g.lim rfl rfl ?_)
  | (refine Some'.ptr (by decide) ?_)
  | (refine Need.mk ⟨rfl, by decide⟩ ?_)
  | (refine LoopW.to ih rfl rfl))
set_option maxHeartbeats 8000000 in
theorem rnd_P4 (l : Lnt) (xs : List D)  {K : Ex → Env → Mem → Prop} (ih : LoopW E ⟨0, 1⟩ [1, 3, 6, 7] keepP b_message_printLine_1 (envP 5 5) (memP l 5 (xs ++ [.str l.rq.pa])) K) : LoopW E ⟨0, 1⟩ [1, 3, 6, 7] keepP b_message_printLine_1 (envP 4 4) (memP l 4 xs) K := by
 refine LoopW.step g.lim ?_
 repeat' ((conv => whnf); first
 | refine Yz ?_
  | (refine In.enter (f := n_message_text_1) g.lim rfl rfl ?_)
  | (refine In.enter (f := n_message_fields_5) g.lim rfl rfl ?_)
  | (refine Some'.ptr (by decide) ?_)
  | (refine Need.mk ⟨rfl, by decide⟩ ?_)
  | (refine LoopW.to ih rfl rfl))
set_option maxHeartbeats 8000000 in
theorem rnd_P5 (l : Lnt) (xs : List D) (hw : Fc E n_message_wide [I l.rq.fr, I 5] (S (wideL 5 l.rq.fr))) {K : Ex → Env → Mem → Prop} (ih : LoopW E ⟨0, 1⟩ [1, 3, 6, 7] keepP b_message_printLine_1 (envP 6 6) (memP l 6 (xs ++ [.str (wideL 5 l.rq.fr)])) K) : LoopW E ⟨0, 1⟩ [1, 3, 6, 7] keepP b_message_printLine_1 (envP 5 5) (memP l 5 xs) K := by
 refine LoopW.step g.lim ?_
 repeat' ((conv => whnf); first
 | refine Yz ?_
  | (refine In.enter (f := n_message_digits_1) g.lim rfl rfl ?_)
  | (refine In.enter (f := n_message_fields_6) g.lim rfl rfl ?_)
  | (refine Some'.ptr (by decide) ?_)
  | (refine Need.mk ⟨rfl, by decide⟩ ?_)
  | (refine CallI.of hw ?_)
  | (refine LoopW.to ih rfl rfl))
set_option maxHeartbeats 8000000 in
theorem rnd_P6 (l : Lnt) (xs : List D) (hw : Fc E n_message_wide [I l.rq.to, I 5] (S (wideL 5 l.rq.to))) {K : Ex → Env → Mem → Prop} (ih : LoopW E ⟨0, 1⟩ [1, 3, 6, 7] keepP b_message_printLine_1 (envP 7 7) (memP l 7 (xs ++ [.str (wideL 5 l.rq.to)])) K) : LoopW E ⟨0, 1⟩ [1, 3, 6, 7] keepP b_message_printLine_1 (envP 6 6) (memP l 6 xs) K := by
 refine LoopW.step g.lim ?_
 repeat' ((conv => whnf); first
 | refine Yz ?_
  | (refine In.enter (f := n_message_digits_1) g.lim rfl rfl ?_)
  | (refine In.enter (f := n_message_fields_7) g.lim rfl rfl ?_)
  | (refine Some'.ptr (by decide) ?_)
  | (refine Need.mk ⟨rfl, by decide⟩ ?_)
  | (refine CallI.of hw ?_)
  | (refine LoopW.to ih rfl rfl))
set_option maxHeartbeats 8000000 in
theorem rnd_P7 (l : Lnt) (xs : List D) (hw : Fc E n_calendar_PrintMask [I l.rq.da] (.tup [S (maskL l.rq.da.toNat), I 0])) {K : Ex → Env → Mem → Prop} (ih : LoopW E ⟨0, 1⟩ [1, 3, 6, 7] keepP b_message_printLine_1 (envP 8 8) (memP l 8 (xs ++ [.str (maskL l.rq.da.toNat)])) K) : LoopW E ⟨0, 1⟩ [1, 3, 6, 7] keepP b_message_printLine_1 (envP 7 7) (memP l 7 xs) K := by
 refine LoopW.step g.lim ?_
 repeat' ((conv => whnf); first
 | refine Yz ?_
  | (refine In.enter (f := n_message_fields_8) g.lim rfl rfl ?_)
  | (refine Some'.ptr (by decide) ?_)
  | (refine Need.mk ⟨rfl, by decide⟩ ?_)
  | (refine CallI.of hw ?_)
  | (refine LoopW.to ih rfl rfl))
set_option maxHeartbeats 8000000 in
theorem rnd_P8 (l : Lnt) (xs : List D) (hw : Fc E n_message_PrintMinute [I l.rq.mi] (.tup [S (minL l.rq.mi), I 0])) {K : Ex → Env → Mem → Prop} (ih : LoopW E ⟨0, 1⟩ [1, 3, 6, 7] keepP b_message_printLine_1 (envP 9 9) (memP l 9 (xs ++ [.str (minL l.rq.mi)])) K) : LoopW E ⟨0, 1⟩ [1, 3, 6, 7] keepP b_message_printLine_1 (envP 8 8) (memP l 8 xs) K := by
 refine LoopW.step g.lim ?_
 repeat' ((conv => whnf); first
 | refine Yz ?_
  | (refine In.enter (f := n_message_fields_10) g.lim rfl rfl ?_)
  | (refine Some'.ptr (by decide) ?_)
  | (refine Need.mk ⟨rfl, by decide⟩ ?_)
  | (refine CallI.of hw ?_)
  | (refine LoopW.to ih rfl rfl))
set_option maxHeartbeats 8000000 in
theorem rnd_P9 (l : Lnt) (xs : List D) (hw : Fc E n_message_wide [I l.rq.se, I 3] (S (wideL 3 l.rq.se))) {K : Ex → Env → Mem → Prop} (ih : LoopW E ⟨0, 1⟩ [1, 3, 6, 7] keepP b_message_printLine_1 (envP 10 10) (memP l 10 (xs ++ [.str (wideL 3 l.rq.se)])) K) : LoopW E ⟨0, 1⟩ [1, 3, 6, 7] keepP b_message_printLine_1 (envP 9 9) (memP l 9 xs) K := by
 refine LoopW.step g.lim ?_
 repeat' ((conv => whnf); first
 | refine Yz ?_
  | (refine In.enter (f := n_message_digits_1) g.lim rfl rfl ?_)
  | (refine In.enter (f := n_message_fields_12) g.lim rfl rfl ?_)
  | (refine Some'.ptr (by decide) ?_)
  | (refine Need.mk ⟨rfl, by decide⟩ ?_)
  | (refine CallI.of hw ?_)
  | (refine LoopW.to ih rfl rfl))
set_option maxHeartbeats 8000000 in
theorem rnd_P10 (l : Lnt) (xs : List D) (hw : Fc E n_message_wide [I l.rq.si, I 1] (S (wideL 1 l.rq.si))) {K : Ex → Env → Mem → Prop} (ih : LoopW E ⟨0, 1⟩ [1, 3, 6, 7] keepP b_message_printLine_1 (envP 11 11) (memP l 11 (xs ++ [.str (wideL 1 l.rq.si)])) K) : LoopW E ⟨0, 1⟩ [1, 3, 6, 7] keepP b_message_printLine_1 (envP 10 10) (memP l 10 xs) K := by
 refine LoopW.step g.lim ?_
 repeat' ((conv => whnf); first
 | refine Yz ?_
  | (refine In.enter (f := n_message_digits_1) g.lim rfl rfl ?_)
  | (refine In.enter (f := n_message_fields_13) g.lim rfl rfl ?_)
  | (refine Some'.ptr (by decide) ?_)
  | (refine Need.mk ⟨rfl, by decide⟩ ?_)
  | (refine CallI.of hw ?_)
  | (refine LoopW.to ih rfl rfl))
set_option maxHeartbeats 8000000 in
theorem rnd_P11 (l : Lnt) (xs : List D) (hw : Fc E n_message_wide [I l.rq.no, I 2] (S (wideL 2 l.rq.no))) {K : Ex → Env → Mem → Prop} (ih : LoopW E ⟨0, 1⟩ [1, 3, 6, 7] keepP b_message_printLine_1 (envP 12 12) (memP l 12 (xs ++ [.str (wideL 2 l.rq.no)])) K) : LoopW E ⟨0, 1⟩ [1, 3, 6, 7] keepP b_message_printLine_1 (envP 11 11) (memP l 11 xs) K := by
 refine LoopW.step g.lim ?_
 repeat' ((conv => whnf); first
 | refine Yz ?_
  | (refine In.enter (f := n_message_digits_1) g.lim rfl rfl ?_)
  | (refine In.enter (f := n_message_fields_14) g.lim rfl rfl ?_)
  | (refine Some'.ptr (by decide) ?_)
  | (refine Need.mk ⟨rfl, by decide⟩ ?_)
  | (refine CallI.of hw ?_)
  | (refine LoopW.to ih rfl rfl))
set_option maxHeartbeats 8000000 in
theorem rnd_P12 (l : Lnt) (xs : List D)  {K : Ex → Env → Mem → Prop} (ih : LoopW E ⟨0, 1⟩ [1, 3, 6, 7] keepP b_message_printLine_1 (envP 13 13) (memP l 13 (xs ++ [.str (dashL l.rq.te)])) K) : LoopW E ⟨0, 1⟩ [1, 3, 6, 7] keepP b_message_printLine_1 (envP 12 12) (memP l 12 xs) K := by
 by_cases he : l.rq.te = []
 ·rw [show dashL l.rq.te = [45] from if_pos he] at ih
  refine LoopW.step g.lim ?_
  repeat' ((conv => whnf); first
  | refine Yz ?_
   | (refine In.enter (f := n_message_dashed_1) g.lim rfl rfl ?_)
   | (refine In.enter (f := n_message_fields_15) g.lim rfl rfl ?_)
   | (refine Some'.ptr (by decide) ?_)
   | (refine Need.mk ⟨rfl, by decide⟩ ?_)
   | (refine Cmp.tt he ?_)
   | (refine LoopW.to ih rfl rfl))
 ·rw [show dashL l.rq.te = l.rq.te from if_neg he] at ih
  refine LoopW.step g.lim ?_
  repeat' ((conv => whnf); first
  | refine Yz ?_
   | (refine In.enter (f := n_message_dashed_1) g.lim rfl rfl ?_)
   | (refine In.enter (f := n_message_fields_15) g.lim rfl rfl ?_)
   | (refine Some'.ptr (by decide) ?_)
   | (refine Need.mk ⟨rfl, by decide⟩ ?_)
   | (refine Cmp.ff he ?_)
   | (refine LoopW.to ih rfl rfl))
set_option maxHeartbeats 8000000 in
theorem rnd_P13 (l : Lnt) (xs : List D)  {K : Ex → Env → Mem → Prop} (ih : LoopW E ⟨0, 1⟩ [1, 3, 6, 7] keepP b_message_printLine_1 (envP 14 14) (memP l 14 (xs ++ [.str (dashL l.rq.li)])) K) : LoopW E ⟨0, 1⟩ [1, 3, 6, 7] keepP b_message_printLine_1 (envP 13 13) (memP l 13 xs) K := by
 by_cases he : l.rq.li = []
 ·rw [show dashL l.rq.li = [45] from if_pos he] at ih
  refine LoopW.step g.lim ?_
  repeat' ((conv => whnf); first
  | refine Yz ?_
   | (refine In.enter (f := n_message_dashed_1) g.lim rfl rfl ?_)
   | (refine In.enter (f := n_message_fields_16) g.lim rfl rfl ?_)
   | (refine Some'.ptr (by decide) ?_)
   | (refine Need.mk ⟨rfl, by decide⟩ ?_)
   | (refine Cmp.tt he ?_)
   | (refine LoopW.to ih rfl rfl))
 ·rw [show dashL l.rq.li = l.rq.li from if_neg he] at ih
  refine LoopW.step g.lim ?_
  repeat' ((conv => whnf); first
  | refine Yz ?_
   | (refine In.enter (f := n_message_dashed_1) g.lim rfl rfl ?_)
   | (refine In.enter (f := n_message_fields_16) g.lim rfl rfl ?_)
   | (refine Some'.ptr (by decide) ?_)
   | (refine Need.mk ⟨rfl, by decide⟩ ?_)
   | (refine Cmp.ff he ?_)
   | (refine LoopW.to ih rfl rfl))
set_option maxHeartbeats 8000000 in
theorem s_printLine (l : Lnt) (h : chkLn l = 0) : Fc E n_message_printLine [Lnv l] (S (lineL l)) := by
 refine g.fn rfl rfl ?_
 obtain ⟨ha, hq⟩ := chkLn_ok h
 obtain ⟨p1, p2, p3, p4, p5, p6⟩ := hq.per
 obtain ⟨m1, m2⟩ := hq.mi
 obtain ⟨s1, s2⟩ := hq.se
 obtain ⟨z1, z2⟩ := hq.si
 obtain ⟨o1, o2⟩ := hq.no
 have w1 := s_wide g l.rq.fr 5 (by omega) (by omega)
 have w2 := s_wide g l.rq.to 5 (by omega) (by omega)
 have w3 := s_wide g l.rq.se 3 (by omega) (by omega)
 have w4 := s_wide g l.rq.si 1 (by omega) (by omega)
 have w5 := s_wide g l.rq.no 2 (by omega) (by omega)
 have mk := s_PrintMask_ok g l.rq.da.toNat (by omega)
 rw [Int.toNat_of_nonneg (by omega)] at mk
 have mi := s_PrintMinute g l.rq.mi
 rw [rng_zero.2 ⟨m1, m2⟩, if_pos rfl] at mi
 have hj := s_Join g (wordsL l) (by simp [wordsL]) (by simp [wordsL]) (Nat.le_trans (lineL_len ha hq) (by decide))
 repeat' ((conv => whnf); first
 | refine Yz ?_
  | (refine CallS.fields g rfl ?_))
 refine LoopW.to (e1 := envP 0 0) (m1 := memP l 0 []) ?_ rfl rfl
 refine rnd_P0 g l _ ?_
 refine rnd_P1 g l _ ?_
 refine rnd_P2 g l _ ?_
 refine rnd_P3 g l _ ?_
 refine rnd_P4 g l _ ?_
 refine rnd_P5 g l _ w1 ?_
 refine rnd_P6 g l _ w2 ?_
 refine rnd_P7 g l _ mk ?_
 refine rnd_P8 g l _ mi ?_
 refine rnd_P9 g l _ w3 ?_
 refine rnd_P10 g l _ w4 ?_
 refine rnd_P11 g l _ w5 ?_
 refine rnd_P12 g l _ ?_
 refine rnd_P13 g l _ ?_
 refine LoopW.step g.lim ?_
 repeat' ((conv => whnf); first
 | refine Yz ?_
  | (refine CallI.of hj ?_)
  | (refine Ret.mk rfl))
end
end Go.Proofs.YtlnlcdnpgjhaaacGreatDoor.Co
/-
 Messages: PrintMessage, by the program and by the reference.
-/
namespace Go.Proofs.YtlnlcdnpgjhaaacGreatDoor.Co
open Go Go.Evl
def txtK (m : Mst) (k : Nat) : List UInt8 := (headT m ++ [10]) ++ linesL (m.ls.take k)
theorem txtK_zero (m : Mst) : txtK m 0 = headT m ++ [10] := by simp [txtK, linesL]
theorem txtK_succ (m : Mst) {k : Nat} (h : k < m.ls.length) : txtK m (k + 1) = txtK m k ++ (lineL m.ls[k] ++ [10]) := by
 unfold txtK
 rw [List.take_add_one, List.getElem?_eq_getElem h, Option.toList_some, linesL_snoc]
 simp only [List.append_assoc]
theorem txtK_end (m : Mst) : msgL m = txtK m m.ls.length ++ (endT m.ls.length ++ [10]) := by
 unfold txtK msgL
 rw [List.take_length]
 simp
theorem txtK_len {m : Mst} (h : OkMs m) (k : Nat) : 1 ≤ (txtK m k).length ∧ (txtK m k).length ≤ 20000 := by
 have h1 := headT_len h
 have h2 := linesL_len (m.ls.take k) fun x hx => (chkLs_zero _ _ _ h.ok).2 x (List.mem_of_mem_take hx)
 have h3 : (m.ls.take k).length ≤ 64 := by rw [List.length_take]; have := h.ln; omega
 simp only [txtK, List.length_append, List.length_cons, List.length_nil]
 omega
theorem byD_app (a b : List UInt8) : byD (a ++ b) = byD a ++ byD b := by simp [byD]
theorem byD_len (a : List UInt8) : (byD a).length = a.length := by simp [byD]
theorem bytesD_eq (a : List UInt8) : Evl.bytesD a = byD a := rfl
theorem stringX_row {bt et t n : Nat} {m : Mem} {o r : Evl.Id} {p : V} {xs : List D} {b : List UInt8} (h1 : Evl.look m o = some (.cells bt [p, .ref r 0 n n])) (h2 : Evl.look m r = some (.row false et 1 n xs)) (hn : n ≠ 0) (hb : Evl.bytesOf xs = some b) : stringX bt et [.ptr o 0 t] m = some (.d (.str b), Evl.upd m r .gone) := by
 simp only [stringX, h1, h2, hb]
 simp [hn]
section
variable {E : Oracle} (g : Good E)
include g
set_option maxRecDepth 100000
set_option maxHeartbeats 8000000 in
theorem s_PrintMessage (m : Mst) (hl : m.ls.length ≤ 1000000) : Fc E n_message_PrintMessage [Msv m] (.tup [S (if chkMs m = 0 then msgL m else []), I (chkMs m)]) := by
 refine g.fn rfl rfl ?_
 have h1 := s_CheckMessage g m hl
 by_cases hc : chkMs m = 0
 ·rw [if_pos hc, hc]
  rw [hc] at h1
  have ok := chkMs_ok.1 hc
  obtain ⟨_, _, hai, _, hse, hd1, hd2⟩ := head_parts ok.hd
  have hki := (vis_msg ok.ki).2
  have hw5 := s_wide g m.da 5 (by omega) ⟨hd1, by omega⟩
  have hwl := wideL_length 5 m.da
  have hw2 := s_wide g (m.ls.length : Int) 2 (by omega) ⟨by omega, by have := ok.ln; omega⟩
  have hwm := wideL_length 2 (m.ls.length : Int)
  have hln := ok.ln
  have hok := (chkLs_zero _ _ _ ok.ok).2
  have e0 : txtK m 0 = [83, 76, 79, 84, 83, 32] ++ m.ki ++ [32] ++ m.ai ++ [32] ++ m.se ++ [32] ++ wideL 5 m.da ++ [10] := by
   rw [txtK_zero]
   simp [headT, joined]
  repeat' ((conv => whnf); first
  | refine Yz ?_
   | (apply CallI.of; assumption)
   | (refine Need.mk (by simp only [maxStr, List.length_append, List.length_cons, List.length_nil]; omega) ?_)
   | (refine Need.mk (by simp [Evl.bytesD] <;> omega) ?_)
   | (refine In.enter (f := n_strings_Builder_WriteString) g.lim rfl rfl ?_)
   | (refine In.extern g.lim (x := copyX ty_strings_Builder) rfl rfl ?_)
   | (refine Some'.mk ⟨_, rfl, ?_⟩))
  refine LoopW.to (LoopW.up g (fun k => [(1, .ptr ⟨0, 1, 0⟩ 0 0), (5, .ptr ⟨0, 5, 1⟩ 0 0), (6, .fn n_strings_Builder_WriteString [.ptr ⟨0, 5, 1⟩ 0 0] []), (35, LL m.ls), (36, I m.ls.length), (37, I k)]) (fun k => [(⟨0, 1, 0⟩, .cells ty_message_Message [S m.ki, S m.ai, S m.se, I m.da, LL m.ls]), (⟨0, 5, 0⟩, .row false ty_uint8 1 (txtK m k).length (byD (txtK m k))), (⟨0, 5, 1⟩, .cells ty_strings_Builder [.ptr ⟨0, 5, 1⟩ 0 0, .ref ⟨0, 5, 0⟩ 0 (txtK m k).length (txtK m k).length])]) m.ls.length (fun k hk ih => ?_) 0 (Nat.zero_le _)) rfl ?_
  ·have hk1 := txtK_len ok k
   have hbl := byD_len (txtK m k)
   by_cases hlt : k < m.ls.length
   ·have hp := s_printLine g m.ls[k] (hok _ (List.getElem_mem hlt))
    have hpl := line_len (hok _ (List.getElem_mem hlt))
    have hs := txtK_succ m hlt
    repeat' ((conv => whnf); first
    | refine Yz ?_
     | (refine PickW.rec Lnt.cells_length k rfl hlt ?_)
     | (refine CallI.of hp ?_)
     | (refine Need.mk (by simp only [maxStr, List.length_append, List.length_cons, List.length_nil]; omega) ?_)
     | (refine Need.mk (by simp [Evl.bytesD] <;> omega) ?_)
     | (refine In.enter (f := n_strings_Builder_WriteString) g.lim rfl rfl ?_)
     | (refine In.extern g.lim (x := copyX ty_strings_Builder) rfl rfl ?_)
     | (refine Some'.mk ⟨_, rfl, ?_⟩)
     | (refine LoopW.to (ih hlt) rfl ?_))
    rw [hs, byD_app, List.length_append]
    rfl
   ·obtain rfl : k = m.ls.length := by omega
    have hb : Evl.bytesOf (byD (txtK m m.ls.length) ++ Evl.bytesD ([69, 78, 68, 32] ++ wideL 2 (m.ls.length : Int) ++ [10])) = some (msgL m) := by
     rw [bytesD_eq, ← byD_app, bytesOf_byD, txtK_end]
     simp [endT, joined]
    repeat' ((conv => whnf); first
    | refine Yz ?_
     | (apply CallI.of; assumption)
     | (refine Need.mk (by simp only [maxStr, List.length_append, List.length_cons, List.length_nil]; omega) ?_)
     | (refine Need.mk (by simp [Evl.bytesD] <;> omega) ?_)
     | (refine In.enter (f := n_strings_Builder_WriteString) g.lim rfl rfl ?_)
     | (refine In.extern g.lim (x := copyX ty_strings_Builder) rfl rfl ?_)
     | (refine In.extern g.lim (x := stringX ty_strings_Builder ty_uint8) rfl (stringX_row rfl rfl (by omega) hb) ?_)
     | (refine Some'.mk ⟨_, rfl, ?_⟩)
     | (refine Ret.mk rfl))
  ·rw [e0]
   simp only [Nat.zero_add, List.nil_append]
   rfl
 ·rw [if_neg hc]
  repeat' ((conv => whnf); first
  | refine Yz ?_
   | (apply CallI.of; assumption)
   | (refine Cmp.ff hc ?_)
   | (refine Ret.mk rfl))
end
end Go.Proofs.YtlnlcdnpgjhaaacGreatDoor.Co
/-
 The changes between requests, sent behind the requests: the plain law.
-/
namespace Go.Proofs.YtlnlcdnpgjhaaacGreatDoor.Co
open Go Go.Evl
def nmsE (l : List Ent) : List (List UInt8) := l.map (·.rq.nm)
theorem plc_no {s : List UInt8} : ∀ l : List Ent, s ∉ nmsE l → plc s l = none
 | [], _ => rfl
 | y :: q, h => by
  have h1 : ¬ y.rq.nm = s := fun e' => h (by simp [nmsE, e'])
  have h2 : s ∉ nmsE q := fun hm => h (List.mem_cons_of_mem _ hm)
  rw [plc, if_neg h1, plc_no q h2]
  rfl
theorem linG_one {da : Int} {l l' : List Ent} {x : Lnt} {r : List Lnt} (he : stpE l x = 0) (hl : stpL l x da = l') : linG da l (x :: r) = linG da l' r := by
 rw [linG, if_pos he, hl]
theorem lin_new (da : Int) : ∀ (q : List Rqt) (l : List Ent), (∀ x ∈ q, x.nm ∉ nmsE l) → (nmsQ q).Nodup → l.length + q.length ≤ 64 → linG da l (q.map fun x => ⟨[78], x⟩) = (l ++ q.map fun x => ⟨x, false, da⟩, 0)
 | [], l, _, _, _ => by simp [linG]
 | x :: r, l, h, hu, hl => by
  have hp := plc_no l (h x (List.mem_cons_self ..))
  have hc : (nmsQ (x :: r)) = x.nm :: nmsQ r := rfl
  rw [hc, List.nodup_cons] at hu
  rw [List.length_cons] at hl
  rw [List.map_cons, linG_one (l' := l ++ [⟨x, false, da⟩]) (by simp only [stpE, hp]; rw [if_pos (.inl trivial), if_neg (by omega)]) (by simp only [stpL, hp]; rfl)]
  refine (lin_new da r (l ++ [⟨x, false, da⟩]) (fun y hy hm => ?_) hu.2 (by simp; omega)).trans ?_
  rotate_left
  ·simp
  ·unfold nmsE at hm
   rw [List.map_append, List.mem_append] at hm
   rcases hm with hm | hm
   ·exact h y (List.mem_cons_of_mem _ hy) hm
   ·simp only [List.map_cons, List.map_nil, List.mem_singleton] at hm
    exact hu.1 (hm ▸ List.mem_map_of_mem hy)
abbrev e0 (x : Rqt) : Ent := ⟨x, false, 10⟩
inductive Blk : List Lnt → Prop where
 | no : Blk []
 | new (x : Rqt) : chkRq x = 0 → Blk [⟨[78], x⟩]
 | del (x : Rqt) : chkRq x = 0 → Blk [⟨[68], x⟩]
 | chg (x o : Rqt) : chkRq x = 0 → chkRq o = 0 → twinB x o = true → Blk [⟨[67], x⟩, ⟨[82], o⟩]
theorem lnE_zero {p : Option Lnt} {s : List UInt8} {q : Rqt} (h1 : chkRq q = 0) (h0 : actB s = true) (h2 : actK s = REQ) (h3 : ((openO p || decide (s = [82])) && !(openO p && decide (s = [82]) && twinO ⟨s, q⟩ p)) = false) : lnE REQ p ⟨s, q⟩ = 0 := by
 unfold lnE
 rw [firstI_zero]
 intro e he
 simp only [List.mem_cons, List.not_mem_nil, or_false] at he
 rcases he with rfl | rfl | rfl
 ·rw [chkLn_eq]; exact (if_pos h0).trans h1
 ·exact if_pos h2
 ·rw [h3]; rfl
theorem chk_blk : ∀ (bs : List (List Lnt)) (p : Option Lnt) (i : Nat), openO p = false → (∀ b ∈ bs, Blk b) → chkLs REQ p i bs.flatten = (0, 0)
 | [], p, i, hp, _ => by
  rw [List.flatten_nil, chkLs, hp]; rfl
 | b :: r, p, i, hp, h => by
  have hb := h b (List.mem_cons_self ..)
  have ih := fun p i hp => chk_blk r p i hp fun x hx => h x (List.mem_cons_of_mem _ hx)
  rw [List.flatten_cons]
  cases hb with
  | no => exact ih p i hp
  | new x hx =>
   rw [List.cons_append, List.nil_append, chkLs, if_pos ?_]
   ·exact ih _ _ rfl
   ·exact lnE_zero hx (by decide) (by decide) (by rw [hp]; rfl)
  | del x hx =>
   rw [List.cons_append, List.nil_append, chkLs, if_pos ?_]
   ·exact ih _ _ rfl
   ·exact lnE_zero hx (by decide) (by decide) (by rw [hp]; rfl)
  | chg x o hx ho ht =>
   rw [List.cons_append, List.cons_append, List.nil_append, chkLs, if_pos ?_, chkLs, if_pos ?_]
   ·exact ih _ _ rfl
   ·exact lnE_zero ho (by decide) (by decide) (by show (true && !(true && twinB x o)) = false; rw [ht]; rfl)
   ·exact lnE_zero hx (by decide) (by decide) (by rw [hp]; rfl)
theorem chk_new {b : List Rqt} (hb : ∀ x ∈ b, chkRq x = 0) : chkLs REQ none 0 (b.map fun x => ⟨[78], x⟩) = (0, 0) := by
 have e : (b.map fun x => (⟨[78], x⟩ : Lnt)) = (b.map fun x => [(⟨[78], x⟩ : Lnt)]).flatten := by
  induction b with
  | nil => rfl
  | cons x r ih => rw [List.map_cons, List.map_cons, List.flatten_cons, ih fun y hy => hb y (List.mem_cons_of_mem _ hy)]; rfl
 rw [e]
 refine chk_blk _ none 0 rfl fun x hx => ?_
 obtain ⟨y, hy, rfl⟩ := List.mem_map.1 hx
 exact .new y (hb y hy)
end Go.Proofs.YtlnlcdnpgjhaaacGreatDoor.Co
/-
 A request that is split at a day: the changes, the message of them, and what is left.
-/
namespace Go.Proofs.YtlnlcdnpgjhaaacGreatDoor.Co
open Go Go.Evl
abbrev HERE : List UInt8 := [104, 101, 114, 101]
abbrev S2024 : List UInt8 := [83, 50, 48, 50, 52]
def nwn (x : Rqt) : Lnt := ⟨[78], x⟩
def sentM (l : List Rqt) (day : Int) : Mst := ⟨REQ, HERE, S2024, day, l.map nwn⟩
theorem chk_parts {x : Rqt} (h : chkRq x = 0) : chkPer x.fr x.to x.da = 0 := by
 unfold chkRq at h
 rw [firstI_zero] at h
 exact h _ (by simp)
end Go.Proofs.YtlnlcdnpgjhaaacGreatDoor.Co
/-
 The Chock laws' fixed example; the message that is sent; the messages that are printed, parsed and read.
-/
namespace Go.Proofs.YtlnlcdnpgjhaaacGreatDoor.Co
open Go Go.Evl
set_option maxRecDepth 100000
section
variable {E : Oracle} (g : Good E)
include g
set_option maxHeartbeats 8000000 in
theorem s_chockSent (l : List Rqt) (day : Int) (hl : l.length ≤ 1000) : Fc E n_top_chockSent [LQ l, I day] (Msv (sentM l day)) := by
 have hR : Msv (sentM l day) = .d (.agg [.str REQ, .str HERE, .str S2024, DI day, .list l.length (l.flatMap fun x => (nwn x).cells)]) := by
  show V.d (.agg [.str REQ, .str HERE, .str S2024, DI day, .list (l.map nwn).length ((l.map nwn).flatMap Lnt.cells)]) = _
  rw [List.length_map, List.flatMap_map]
 rw [hR]
 refine g.fn rfl rfl ?_
 repeat' ((conv => whnf); first
 | refine Yz ?_
  | fail)
 refine LoopW.to (LoopW.up g (fun k => [(4, .ptr ⟨0, 4, 1⟩ 0 0), (5, .ptr ⟨0, 5, 1⟩ 0 0), (10, LQ l), (11, I l.length), (12, I k)]) (fun k => [(⟨0, 4, 0⟩, .row false ty_message_Line 14 0 []), (⟨0, 4, 1⟩, .cells ty_message_Message [S [], S [], S [], I 0, .ref ⟨0, 4, 0⟩ 0 0 0]), (⟨0, 9, 0⟩, .row false ty_message_Line 14 k ((l.take k).flatMap fun x => (nwn x).cells)), (⟨0, 5, 0⟩, .row false ty_message_Line 14 0 []), (⟨0, 5, 1⟩, .cells ty_message_Message [S REQ, S HERE, S S2024, I day, .ref ⟨0, 9, 0⟩ 0 k k])]) l.length (fun k hk ih => ?_) 0 (Nat.zero_le _)) rfl rfl
 by_cases hlt : k < l.length
 ·have ih := ih hlt
  have hf := flatR_take (fun x => (nwn x).cells) l k hlt
  have hfl := flatR_length (fun x => (nwn x).cells) 14 (fun _ => rfl) (l.take k)
  rw [List.length_take, Nat.min_eq_left hk] at hfl
  rw [hf] at ih
  repeat' ((conv => whnf); first
  | refine Yz ?_
   | (refine PickW.rec Rqt.cells_length k rfl hlt ?_)
   | (refine Need.mk ⟨rfl, rfl, rfl, rfl, rfl, rfl, by show (k + 1) * 168 ≤ _; omega, by omega⟩ ?_)
   | (refine LoopW.to ih rfl rfl)
   | fail)
 ·obtain rfl : k = l.length := by omega
  rw [List.take_length]
  repeat' ((conv => whnf); first
  | refine Yz ?_
   | (refine Need.mk ⟨rfl, Nat.le_refl 5⟩ ?_)
   | (rw [if_pos (⟨rfl, rfl⟩ : _ ∧ _)])
   | (refine Ret.mk rfl)
   | fail)
set_option maxHeartbeats 8000000 in
theorem s_chockRead (ms : List Mst) (hl : ms.length ≤ 64) (hr : (reqs ms).1.length ≤ 1000) (hk : ∀ m ∈ ms, chkMs m = 0 ∧ (msgL m).length ≤ 16384) : Fc E n_top_chockRead [LMs ms] (.tup [LQ ((reqs ms).1.map (·.rq)), B (decide ((reqs ms).2.2 = 0))]) := by
 refine g.fn rfl rfl ?_
 repeat' ((conv => whnf); first
 | refine Yz ?_
  | fail)
 refine LoopW.to (LoopW.up g (fun k => [(4, .ref ⟨0, 4, 0⟩ 0 k k), (18, LMs ms), (19, I ms.length), (20, I k)]) (fun k => [(⟨0, 2, 0⟩, .row false ty_api_Request 13 0 []), (⟨0, 4, 0⟩, .row false ty_message_Message 5 k ((ms.take k).flatMap Mst.cells))]) ms.length (fun k hk' ih => ?_) 0 (Nat.zero_le _)) rfl rfl
 by_cases hlt : k < ms.length
 ·have ih := ih hlt
  have hf := flatR_take Mst.cells ms k hlt
  have hfl := flatR_length Mst.cells 5 Mst.cells_length (ms.take k)
  rw [List.length_take, Nat.min_eq_left hk'] at hfl
  rw [hf] at ih
  obtain ⟨hz, hlen⟩ := hk _ (List.getElem_mem hlt)
  have ok := chkMs_ok.1 hz
  have q1 := s_PrintMessage g ms[k] (by have := ok.ln; omega)
  rw [if_pos hz, hz] at q1
  have q2 := s_ParseMessage g (msgL ms[k]) (by omega)
  rw [parse_back ok hlen] at q2
  dsimp only at q2
  repeat' ((conv => whnf); first
  | refine Yz ?_
   | (refine PickW.rec Mst.cells_length k rfl hlt ?_)
   | (apply CallI.of; assumption)
   | (refine Need.mk ⟨rfl, rfl, rfl, rfl, rfl, rfl, by show (k + 1) * 80 ≤ _; omega, by omega⟩ ?_)
   | (refine LoopW.to ih rfl rfl)
   | fail)
 ·obtain rfl : k = ms.length := by omega
  rw [List.take_length]
  clear ih
  have q := s_Requests g ms (by omega) (fun m hm => by
   have := (chkMs_ok.1 (hk m hm).1).ln
   omega)
  generalize reqs ms = R at *
  obtain ⟨es, n, e⟩ := R
  dsimp only at q hr ⊢
  repeat' ((conv => whnf); first
  | refine Yz ?_
   | (apply CallI.of; assumption)
   | (rw [if_pos (⟨rfl, rfl⟩ : _ ∧ _)])
   | (refine CallI.of q ?_)
   | fail)
  clear q
  have hR : LQ (es.map (·.rq)) = .d (.list es.length (es.flatMap fun x => x.rq.cells)) := by
   show V.d (.list (es.map (·.rq)).length ((es.map (·.rq)).flatMap Rqt.cells)) = _
   rw [List.length_map, List.flatMap_map]
  rw [hR]
  refine LoopW.to (LoopW.up g (fun k => [(14, I e), (15, .ref ⟨0, 15, 0⟩ 0 k k), (52, LE es), (53, I es.length), (54, I k)]) (fun k => [(⟨0, 2, 0⟩, .row false ty_api_Request 13 0 []), (⟨0, 4, 0⟩, .row false ty_message_Message 5 ms.length (ms.flatMap Mst.cells)), (⟨0, 15, 0⟩, .row false ty_api_Request 13 k ((es.take k).flatMap fun x => x.rq.cells))]) es.length (fun k hk' ih => ?_) 0 (Nat.zero_le _)) rfl rfl
  by_cases hlt : k < es.length
  ·have ih := ih hlt
   have hf := flatR_take (fun x : Ent => x.rq.cells) es k hlt
   have hfl := flatR_length (fun x : Ent => x.rq.cells) 13 (fun _ => rfl) (es.take k)
   rw [List.length_take, Nat.min_eq_left hk'] at hfl
   rw [hf] at ih
   repeat' ((conv => whnf); first
   | refine Yz ?_
    | (refine PickW.rec Ent.cells_length k rfl hlt ?_)
    | (refine Need.mk ⟨rfl, rfl, rfl, rfl, rfl, rfl, by show (k + 1) * 152 ≤ _; omega, by omega⟩ ?_)
    | (refine LoopW.to ih rfl rfl)
    | fail)
  ·obtain rfl : k = es.length := by omega
   rw [List.take_length]
   clear ih
   by_cases he : e = 0
   ·rw [decide_eq_true he]
    repeat' ((conv => whnf); first
    | refine Yz ?_
     | (refine Cmp.tt he ?_)
     | (rw [if_pos (⟨rfl, rfl⟩ : _ ∧ _)])
     | (refine Ret.mk rfl)
     | fail)
   ·rw [decide_eq_false he]
    repeat' ((conv => whnf); first
    | refine Yz ?_
     | (refine Cmp.ff he ?_)
     | (rw [if_pos (⟨rfl, rfl⟩ : _ ∧ _)])
     | (refine Ret.mk rfl)
     | fail)
end
end Go.Proofs.YtlnlcdnpgjhaaacGreatDoor.Co
/-
 Years, months, days: what the program's functions and the reference's give.
-/
namespace Go.Proofs.YtlnlcdnpgjhaaacGreatDoor.Co
open Go Go.Evl
section
variable {E : Oracle} (g : Good E)
include g
theorem s_weekday (day : Int) (h : 0 ≤ day ∧ day ≤ 1000000) : Fc E n_calendar_weekday [I day] (I ((day + 5) % 7)) := by
 refine g.fn rfl rfl ?_
 repeat' ((conv => whnf); first
 | refine Yz ?_
  | (refine Ret.mk rfl))
theorem r_Weekday (day : Int) (h : 0 ≤ day ∧ day ≤ 1000000) : Fc E n_ref01_Weekday [I day] (I ((day + 5) % 7)) := by
 refine g.fn rfl rfl ?_
 repeat' ((conv => whnf); first
 | refine Yz ?_
  | (refine Ret.mk rfl))
end
end Go.Proofs.YtlnlcdnpgjhaaacGreatDoor.Co
/-
 The days of a period: what the program's functions give.
-/
namespace Go.Proofs.YtlnlcdnpgjhaaacGreatDoor.Co
open Go Go.Evl
def daysP (f d : Int) : Nat → List Int
 | 0 => []
 | k + 1 => daysP f d k ++ (if inM d ((f + k + 5) % 7) then [f + k] else [])
theorem daysP_length (f d : Int) : ∀ k : Nat, (daysP f d k).length ≤ k
 | 0 => Nat.le_refl _
 | k + 1 => by
  have := daysP_length f d k
  simp only [daysP, List.length_append]
  split <;> simp <;> omega
def rngAsg : C := .reg false [⟨some 6, none, .mv (.t 8)⟩] [8]
def rngBdy : C := .block 1 (.seq (.reg false [
⟨some 9, none, .load none (.t 3)⟩,
⟨some 10, none, .mv (.t 6)⟩,
⟨some 11, none, .call true true (.t 9) [.t 10]⟩] [3, 9, 10])
(.cond (.t 11) (.reg false [
⟨some 12, none, .load none (.t 5)⟩,
⟨some 13, none, .mv (.t 6)⟩,
⟨some 14, none, .mkList 1 1 [.t 13]⟩,
⟨some 15, none, .append ⟨false, ty_int, 1, 8⟩ (.t 12) (.t 14)⟩,
⟨none, none, .store 1 (.t 5) (.t 15)⟩] [5, 6, 12, 13, 14, 15])
 .skip))
section
variable {E : Oracle} (g : Good E)
include g
theorem s_DaysOf_ok (f t d : Int) (h : chkPer f t d = 0) : Fc E n_calendar_DaysOf [Per f t d] (.tup [LI (daysP f d (t - f + 1).toNat), I 0]) := by
 refine g.fn rfl rfl ?_
 have hc := s_CheckPeriod g f t d
 rw [h] at hc
 have hb := chkPer_zero.1 h
 repeat' ((conv => whnf); first
 | refine Yz ?_
  | (refine CallI.of hc ?_)
  | (refine CallS.of (In.enter (f := n_calendar_daysOf) g.lim rfl rfl ?_))
  | (refine ⟨(.fn n_calendar_daysOf_1 [] [.ptr ⟨0, 11, 0⟩ 0 0], [(⟨0, 1, 0⟩, .cells ty_api_Period [I f, I t, I d]), (⟨0, 11, 0⟩, .cells ty_api_Period [I f, I t, I d])]), rfl, ?_⟩)
  | (refine In.enter (f := n_calendar_collected_int) g.lim rfl rfl ?_)
  | (refine In.enter (f := n_calendar_daysOf_1) g.lim rfl rfl ?_))
 refine LoopW.to (LoopW.up g (fun k => [(0, .yld ⟨1, 18, 0⟩), (1, .ptr ⟨0, 11, 0⟩ 0 0), (3, I (f + k))]) (fun k => [(⟨0, 1, 0⟩, .cells ty_api_Period [I f, I t, I d]), (⟨0, 11, 0⟩, .cells ty_api_Period [I f, I t, I d]),
  (⟨1, 3, 0⟩, .cells ty_func_int_bool [.fn n_calendar_DaysOf_1 [] []]), (⟨1, 4, 0⟩, .row false ty_int 1 0 []), (⟨1, 5, 0⟩, .row false ty_int 1 (daysP f d k).length ((daysP f d k).map DI)), (⟨1, 5, 1⟩, .cells ty_Lint [.ref ⟨1, 5, 0⟩ 0 (daysP f d k).length (daysP f d k).length]),
  (⟨1, 18, 0⟩, .loop [(3, .ptr ⟨1, 3, 0⟩ 0 0), (4, .ref ⟨1, 4, 0⟩ 0 0 0), (5, .ptr ⟨1, 5, 1⟩ 0 0), (7, .fn n_calendar_daysOf_1 [] [.ptr ⟨0, 11, 0⟩ 0 0])] [8] rngAsg rngBdy 1 false false none)]) (t - f + 1).toNat (fun k hk ih => ?_) 0 (Nat.zero_le _)) (by simp) rfl
 have hlen := daysP_length f d k
 by_cases hlt : k < (t - f + 1).toNat
 ·have hin := s_inMask g d ((f + k + 5) % 7) (by omega) (by omega)
  by_cases hc : inM d ((f + k + 5) % 7) = true
  ·rw [hc] at hin
   repeat' ((conv => whnf); first
   | refine Yz ?_
    | (refine CallI.of (s_weekday g _ (by omega)) ?_)
    | (refine CallI.of hin ?_)
    | (refine Rnd.enter g.lim ?_)
    | (refine In.enter (f := n_calendar_DaysOf_1) g.lim rfl rfl ?_)
    | (refine LoopW.to (ih hlt) ?_ ?_))
   ·simp; omega
   ·simp [daysP, hc]
  ·rw [Bool.not_eq_true] at hc
   rw [hc] at hin
   repeat' ((conv => whnf); first
   | refine Yz ?_
    | (refine CallI.of (s_weekday g _ (by omega)) ?_)
    | (refine CallI.of hin ?_)
    | (refine LoopW.to (ih hlt) ?_ ?_))
   ·simp; omega
   ·simp [daysP, hc]
 ·have hk' : k = (t - f + 1).toNat := by omega
  repeat' ((conv => whnf); first
  | refine Yz ?_
   | (refine Ret.mk ?_))
  simp [hk']
end
end Go.Proofs.YtlnlcdnpgjhaaacGreatDoor.Co
/-
 The days of a period, the common days of two: the program's and the reference's.
-/
namespace Go.Proofs.YtlnlcdnpgjhaaacGreatDoor.Co
open Go Go.Evl
def hasB (f t d day : Int) : Bool := decide (f ≤ day) && (decide (day ≤ t) && inM d ((day + 5) % 7))
section
variable {E : Oracle} (g : Good E)
include g
theorem s_has (f t d day : Int) (hd : 0 ≤ d ∧ d ≤ 127) (h : 0 ≤ day ∧ day ≤ 1000000) : Fc E n_calendar_has [Per f t d, I day] (B (hasB f t d day)) := by
 refine g.fn rfl rfl ?_
 have hin := s_inMask g d ((day + 5) % 7) hd (by omega)
 unfold hasB
 generalize inM d ((day + 5) % 7) = b at *
 by_cases h1 : f ≤ day
 ·by_cases h2 : day ≤ t
  all_goals repeat' ((conv => whnf); first
  | refine Yz ?_
   | (refine CallI.of (s_weekday g _ h) ?_)
   | (refine CallI.of hin ?_)
   | (refine Ret.mk ?_))
  all_goals simp [h1, h2]
 ·repeat' ((conv => whnf); first
 | refine Yz ?_
   | (refine Ret.mk ?_))
  simp [h1]
theorem r_Has (f t d day : Int) (hd : 0 ≤ d ∧ d ≤ 127) (h : 0 ≤ day ∧ day ≤ 1000000) : Fc E n_ref01_Has [Per f t d, I day] (B (hasB f t d day)) := by
 refine g.fn rfl rfl ?_
 have hin := r_InMask g d ((day + 5) % 7) hd (by omega)
 unfold hasB
 generalize inM d ((day + 5) % 7) = b at *
 by_cases h1 : f ≤ day
 ·by_cases h2 : day ≤ t
  all_goals repeat' ((conv => whnf); first
  | refine Yz ?_
   | (refine CallI.of (r_Weekday g _ h) ?_)
   | (refine CallI.of hin ?_)
   | (refine Ret.mk ?_))
  all_goals simp [h1, h2]
 ·repeat' ((conv => whnf); first
 | refine Yz ?_
   | (refine Ret.mk ?_))
  simp [h1]
theorem s_Has_ok (f t d day : Int) (h : chkPer f t d = 0) (h2 : rng day 0 99999 = 0) : Fc E n_calendar_Has [Per f t d, I day] (.tup [B (hasB f t d day), I 0]) := by
 refine g.fn rfl rfl ?_
 have hc := s_CheckPeriod g f t d
 have hc2 := s_checkDay g day
 rw [h] at hc
 rw [h2] at hc2
 have hb := chkPer_zero.1 h
 have hb2 := rng_zero.1 h2
 have hf : Fc E n_calendar_first [.d (.list 2 [DI 0, DI 0])] (I 0) := s_first2 g 0 0
 repeat' ((conv => whnf); first
 | refine Yz ?_
  | (refine CallI.of hc ?_)
  | (refine CallI.of hc2 ?_)
  | (refine CallI.of hf ?_)
  | (refine CallI.of (s_has g _ _ _ _ (by omega) (by omega)) ?_)
  | (refine Ret.mk rfl))
theorem s_Count (f t d : Int) (l : List Int) (e : Int) (h : Fc E n_calendar_DaysOf [Per f t d] (.tup [LI l, I e])) : Fc E n_calendar_Count [Per f t d] (.tup [I l.length, I e]) := by
 refine g.fn rfl rfl ?_
 repeat' ((conv => whnf); first
 | refine Yz ?_
  | (refine CallI.of h ?_)
  | (refine Ret.mk rfl))
end
end Go.Proofs.YtlnlcdnpgjhaaacGreatDoor.Co
/-
 Priority: claims and their facts.
-/
namespace Go.Proofs.YtlnlcdnpgjhaaacGreatDoor.Co
open Go Go.Evl
structure Clm where
 rq : Rqt
 (hi re ne ye : Bool)
 di : Int
def Clm.cells (c : Clm) : List D := [.str c.rq.nm, .str c.rq.ca, .str c.rq.ki, .str c.rq.te, .str c.rq.pa, .str c.rq.li, DI c.rq.fr, DI c.rq.to, DI c.rq.da, DI c.rq.mi, DI c.rq.se, DI c.rq.si, DI c.rq.no, .bool c.hi, .bool c.re, .bool c.ne, .bool c.ye, DI c.di]
theorem Clm.cells_length (c : Clm) : c.cells.length = 18 := rfl
abbrev Clv (c : Clm) : V := .d (.agg c.cells)
def chkCl (c : Clm) : Int := firstI [chkRq c.rq, rng c.di 0 20000]
theorem chkCl_zero {c : Clm} : chkCl c = 0 ↔ chkRq c.rq = 0 ∧ 0 ≤ c.di ∧ c.di ≤ 20000 := by
 unfold chkCl
 rw [firstI_zero, ← rng_zero]
 simp
theorem chkCl_per {c : Clm} (h : chkCl c = 0) : chkPer c.rq.fr c.rq.to c.rq.da = 0 := by
 have h := (chkCl_zero.1 h).1
 unfold chkRq at h
 rw [firstI_zero] at h
 exact h _ (by simp)
abbrev fcL : List (List UInt8) := [[104, 105, 115, 116, 111, 114, 105, 99], [114, 101, 116, 105, 109, 101, 100], [110, 101, 119, 99, 111, 109, 101, 114], [121, 101, 97, 114, 114, 111, 117, 110, 100], [100, 97, 121, 115], [115, 101, 97, 116, 115], [115, 105, 122, 101], [110, 111, 105, 115, 101], [100, 105, 115, 116, 97, 110, 99, 101], [109, 105, 110, 117, 116, 101]]
def bitI (b : Bool) : Int := if b then 1 else 0
def factV (c : Clm) (s : List UInt8) : Int :=
 if s = [104, 105, 115, 116, 111, 114, 105, 99] then bitI c.hi else if s = [114, 101, 116, 105, 109, 101, 100] then bitI c.re else if s = [110, 101, 119, 99, 111, 109, 101, 114] then bitI c.ne
 else if s = [121, 101, 97, 114, 114, 111, 117, 110, 100] then bitI c.ye else if s = [100, 97, 121, 115] then ((daysP c.rq.fr c.rq.da (c.rq.to - c.rq.fr + 1).toNat).length : Int)
 else if s = [115, 101, 97, 116, 115] then c.rq.se else if s = [115, 105, 122, 101] then c.rq.si else if s = [110, 111, 105, 115, 101] then c.rq.no else if s = [100, 105, 115, 116, 97, 110, 99, 101] then c.di else c.rq.mi
abbrev fcE (s : List UInt8) (n : Nat) : D × V := (.str s, .d (.agg [.str s, .fn n]))
abbrev facM : List (D × V) := [fcE [104, 105, 115, 116, 111, 114, 105, 99] n_priority_facts_1, fcE [114, 101, 116, 105, 109, 101, 100] n_priority_facts_2, fcE [110, 101, 119, 99, 111, 109, 101, 114] n_priority_facts_3, fcE [121, 101, 97, 114, 114, 111, 117, 110, 100] n_priority_facts_4, fcE [100, 97, 121, 115] n_priority_facts_5, fcE [115, 101, 97, 116, 115] n_priority_facts_6, fcE [115, 105, 122, 101] n_priority_facts_7, fcE [110, 111, 105, 115, 101] n_priority_facts_8, fcE [100, 105, 115, 116, 97, 110, 99, 101] n_priority_facts_9, fcE [109, 105, 110, 117, 116, 101] n_priority_facts_10]
section
variable {E : Oracle} (g : Good E)
include g
set_option maxRecDepth 100000
theorem s_pfirst (l : List Int) (hl : l.length ≤ 140737488355328) : Fc E n_priority_first [LI l] (I (firstI l)) := by
 refine g.fn rfl rfl ?_
 conv => whnf
 refine LoopW.upP g (fun k => [(5, LI l), (6, I l.length), (7, I k)]) (fun _ => []) (fun k => firstI l = firstI (l.drop k)) l.length (fun k hk hp ih => ?_) 0 (Nat.zero_le _) (by simp)
 by_cases hlt : k < l.length
 ·have hd := firstI_drop l k hlt
  repeat' ((conv => whnf); first
  | refine Yz ?_
   | (refine Pick.int (by omega) ?_)
   | (refine Cmp.mk (fun h => ?_) (fun h => ?_)) | (refine Rem.any (by omega) (fun r hr he => ?_)) | (refine Br.mk (fun h => ?_) (fun h => ?_))
   | (refine LoopW.to (ih hlt ?_) ?_ rfl)
   | (refine Ret.mk ?_))
  all_goals simp_all
 ·have : l.drop k = [] := List.drop_eq_nil_of_le (by omega)
  repeat' ((conv => whnf); first
  | refine Yz ?_
   | (refine Ret.mk ?_))
  simp [hp, this, firstI]
theorem s_pfirst2 (a b : Int) : Fc E n_priority_first [.d (.list 2 [DI a, DI b])] (I (firstI [a, b])) := s_pfirst g [a, b] (by simp)
theorem s_pfirst3 (a b c : Int) : Fc E n_priority_first [.d (.list 3 [DI a, DI b, DI c])] (I (firstI [a, b, c])) := s_pfirst g [a, b, c] (by simp)
theorem s_pwhen (b : Bool) (e : Int) : Fc E n_priority_when [B b, I e] (I (if b = true then e else 0)) := by
 refine g.fn rfl rfl ?_
 cases b
 all_goals repeat' ((conv => whnf); first
 | refine Yz ?_
  | (refine Ret.mk rfl))
theorem s_pwithin (n a b : Int) : Fc E n_priority_within [I n, I a, I b] (I (rng n a b)) := by
 refine g.fn rfl rfl ?_
 have hw := s_pwhen g
 unfold rng
 by_cases h1 : n < a
 ·rw [if_pos (.inl h1)]
  repeat' ((conv => whnf); first
  | refine Yz ?_
   | (refine CallI.of (hw _ _) ?_)
   | (refine Ret.mk rfl))
 ·by_cases h2 : b < n
  ·rw [if_pos (.inr h2)]
   repeat' ((conv => whnf); first
   | refine Yz ?_
    | (refine CallI.of (hw _ _) ?_)
    | (refine Ret.mk rfl))
  ·rw [if_neg (by omega)]
   repeat' ((conv => whnf); first
   | refine Yz ?_
    | (refine CallI.of (hw _ _) ?_)
    | (refine Ret.mk rfl))
theorem s_pbit (b : Bool) : Fc E n_priority_bit [B b] (I (bitI b)) := by
 refine g.fn rfl rfl ?_
 cases b
 all_goals repeat' ((conv => whnf); first
 | refine Yz ?_
  | (refine Ret.mk rfl))
theorem s_CheckClaim (c : Clm) : Fc E n_priority_CheckClaim [Clv c] (I (chkCl c)) := by
 refine g.fn rfl rfl ?_
 have h1 := s_CheckRequest g c.rq
 have h2 := s_pwithin g c.di 0 20000
 repeat' ((conv => whnf); first
 | refine Yz ?_
  | (apply CallI.of; assumption)
  | (refine CallI.of (s_pfirst2 g _ _) ?_)
  | (refine Ret.mk rfl))
theorem r_CheckClaim (c : Clm) : Fc E n_ref05_CheckClaim [Clv c] (I (chkCl c)) := by
 refine g.fn rfl rfl ?_
 have h1 := r_CheckRequest g c.rq
 have h2 := r_CheckRange g c.di 0 20000
 repeat' ((conv => whnf); first
 | refine Yz ?_
  | (apply CallI.of; assumption)
  | (refine CallI.of (r_First2 g _ _) ?_)
  | (refine Ret.mk rfl))
theorem s_Facts : Fc E n_priority_Facts [] (.d (.list 10 (fcL.map D.str))) := g.compR 100 (by decide +kernel)
theorem s_known : E (.call 0 n_priority_known [] []) = some (.val (.mp ⟨0, 4, 0⟩) [(⟨0, 4, 0⟩, .map facM)]) := g.lim.of_iter 100 _ _ (by kernel_rfl)
omit g in
theorem settle_known {cx : Cx} {slot : Nat} {m : Mem} (hf : Go.Evl.freeK cx.lv slot m = 0) : Go.Evl.settle cx slot 0 m [(⟨0, 4, 0⟩, .map facM)] (.mp ⟨0, 4, 0⟩) = some (.mp ⟨cx.lv, slot, 0⟩, m ++ [(⟨cx.lv, slot, 0⟩, .map facM)]) := by
 unfold Go.Evl.settle
 rw [hf]
 rfl
theorem CallS.known {cx : Cx} {slot : Nat} {m : Mem} {K : V → Mem → Prop} (hf : Go.Evl.freeK cx.lv slot m = 0) (h : K (.mp ⟨cx.lv, slot, 0⟩) (m ++ [(⟨cx.lv, slot, 0⟩, .map facM)])) : CallS E n_priority_known [] cx slot m K := ⟨_, _, _, s_known g, settle_known hf, h⟩
theorem s_fact1 (c : Clm) : Fc E n_priority_facts_1 [Clv c] (I (bitI c.hi)) := by
 refine g.fn rfl rfl ?_
 repeat' ((conv => whnf); first
 | refine Yz ?_
  | (refine CallI.of (s_pbit g _) ?_)
  | (refine Ret.mk rfl))
theorem s_fact2 (c : Clm) : Fc E n_priority_facts_2 [Clv c] (I (bitI c.re)) := by
 refine g.fn rfl rfl ?_
 repeat' ((conv => whnf); first
 | refine Yz ?_
  | (refine CallI.of (s_pbit g _) ?_)
  | (refine Ret.mk rfl))
theorem s_fact3 (c : Clm) : Fc E n_priority_facts_3 [Clv c] (I (bitI c.ne)) := by
 refine g.fn rfl rfl ?_
 repeat' ((conv => whnf); first
 | refine Yz ?_
  | (refine CallI.of (s_pbit g _) ?_)
  | (refine Ret.mk rfl))
theorem s_fact4 (c : Clm) : Fc E n_priority_facts_4 [Clv c] (I (bitI c.ye)) := by
 refine g.fn rfl rfl ?_
 repeat' ((conv => whnf); first
 | refine Yz ?_
  | (refine CallI.of (s_pbit g _) ?_)
  | (refine Ret.mk rfl))
theorem s_fact5 (c : Clm) (h : chkPer c.rq.fr c.rq.to c.rq.da = 0) : Fc E n_priority_facts_5 [Clv c] (I (daysP c.rq.fr c.rq.da (c.rq.to - c.rq.fr + 1).toNat).length) := by
 refine g.fn rfl rfl ?_
 have h1 := s_Count g _ _ _ _ _ (s_DaysOf_ok g _ _ _ h)
 repeat' ((conv => whnf); first
 | refine Yz ?_
  | (apply CallI.of; assumption)
  | (refine Ret.mk rfl))
theorem s_fact6 (c : Clm) : Fc E n_priority_facts_6 [Clv c] (I c.rq.se) := by
 refine g.fn rfl rfl ?_
 repeat' ((conv => whnf); first
 | refine Yz ?_
  | (refine Ret.mk rfl))
theorem s_fact7 (c : Clm) : Fc E n_priority_facts_7 [Clv c] (I c.rq.si) := by
 refine g.fn rfl rfl ?_
 repeat' ((conv => whnf); first
 | refine Yz ?_
  | (refine Ret.mk rfl))
theorem s_fact8 (c : Clm) : Fc E n_priority_facts_8 [Clv c] (I c.rq.no) := by
 refine g.fn rfl rfl ?_
 repeat' ((conv => whnf); first
 | refine Yz ?_
  | (refine Ret.mk rfl))
theorem s_fact9 (c : Clm) : Fc E n_priority_facts_9 [Clv c] (I c.di) := by
 refine g.fn rfl rfl ?_
 repeat' ((conv => whnf); first
 | refine Yz ?_
  | (refine Ret.mk rfl))
theorem s_fact10 (c : Clm) : Fc E n_priority_facts_10 [Clv c] (I c.rq.mi) := by
 refine g.fn rfl rfl ?_
 repeat' ((conv => whnf); first
 | refine Yz ?_
  | (refine Ret.mk rfl))
end
end Go.Proofs.YtlnlcdnpgjhaaacGreatDoor.Co
/-
 Priority: claims and conditions as a law's parameters.
-/
namespace Go.Proofs.YtlnlcdnpgjhaaacGreatDoor.Co
open Go Go.Evl
set_option maxRecDepth 100000
theorem fit_bo {k : Nat} {ds : List D} (h : fit Tryz.prog (k + 1) 4 ds) : ∃ b, ds = [.bool b] := fit_b Tryz.underlying4 h
structure Tst where
 (fa op : List UInt8)
 va : Int
def Tst.cells (t : Tst) : List D := [.str t.fa, .str t.op, DI t.va]
abbrev Tsv (t : Tst) : V := .d (.agg t.cells)
end Go.Proofs.YtlnlcdnpgjhaaacGreatDoor.Co
/-
 Priority: lists of claims as a law's parameters.
-/
namespace Go.Proofs.YtlnlcdnpgjhaaacGreatDoor.Co
open Go Go.Evl
set_option maxRecDepth 100000
abbrev LM (l : List Clm) : V := .d (.list l.length (l.flatMap Clm.cells))
theorem fit_Claim {k : Nat} {ds : List D} (h : fit Tryz.prog (k + 4) 59 ds) : ∃ c : Clm, ds = c.cells := by
 obtain ⟨_, _, rfl, h1, _, _, rfl, h2, _, _, rfl, h3, _, _, rfl, h4, _, _, rfl, h5, _, _, rfl, h6, rfl⟩ := fit_st Tryz.underlying59 h
 obtain ⟨q, rfl⟩ := fit_Request h1
 obtain ⟨b1, rfl⟩ := fit_bo h2
 obtain ⟨b2, rfl⟩ := fit_bo h3
 obtain ⟨b3, rfl⟩ := fit_bo h4
 obtain ⟨b4, rfl⟩ := fit_bo h5
 obtain ⟨d, rfl, _⟩ := fit_int h6
 exact ⟨⟨q, b1, b2, b3, b4, d⟩, rfl⟩
theorem fit_Claims {k : Nat} : ∀ (m : Nat) {ds : List D}, fitAll (fit Tryz.prog (k + 4)) (List.replicate m 59) ds → ∃ l : List Clm, ds = l.flatMap Clm.cells ∧ l.length = m
 | 0, ds, h => ⟨[], h, rfl⟩
 | m + 1, ds, h => by
  obtain ⟨a, b, rfl, h1, h2⟩ := h
  obtain ⟨x, rfl⟩ := fit_Claim h1
  obtain ⟨l, rfl, h3⟩ := fit_Claims m h2
  exact ⟨x :: l, rfl, by simp [h3]⟩
theorem arg_Claims {x : D} (h : fitArg Tryz.prog 23 x) : ∃ l : List Clm, x = .list l.length (l.flatMap Clm.cells) ∧ l.length ≤ 9223372036854775807 := by
 obtain ⟨m, cs, rfl, h1, h2⟩ := arg_l Tryz.underlying23 h
 obtain ⟨l, rfl, rfl⟩ := fit_Claims m h2
 exact ⟨l, rfl, Nat.le_trans h1 (by decide)⟩
end Go.Proofs.YtlnlcdnpgjhaaacGreatDoor.Co
/-
 Priority: conditions.
-/
namespace Go.Proofs.YtlnlcdnpgjhaaacGreatDoor.Co
open Go Go.Evl
def idxG : List (List UInt8) → List UInt8 → Nat → Int
 | [], _, _ => -1
 | x :: r, s, k => if s = x then k else idxG r s (k + 1)
theorem idxG_mem (s : List UInt8) : ∀ (l : List (List UInt8)) (k : Nat), 0 ≤ idxG l s k ↔ s ∈ l
 | [], k => by simp [idxG]
 | x :: r, k => by
  unfold idxG
  split
  ·rename_i h
   simp [h]
  ·rename_i h
   rw [idxG_mem s r]
   simp [h]
theorem idxG_drop (l : List (List UInt8)) (s : List UInt8) (k : Nat) (h : k < l.length) : idxG (l.drop k) s k = if s = l[k] then (k : Int) else idxG (l.drop (k + 1)) s (k + 1) := by
 rw [List.drop_eq_getElem_cons h]
 rfl
def opB (s : List UInt8) : Bool := decide (s = [61]) || decide (s = [60]) || decide (s = [62])
def chkTs (t : Tst) : Int := firstI [if t.fa ∈ fcL then 0 else 10, if opB t.op = true then 0 else 13, rng t.va 0 999999999]
def holdV (v : Int) (op : List UInt8) (va : Int) : Bool := if op = [60] then decide (v < va) else if op = [62] then decide (va < v) else decide (v = va)
def holdB (c : Clm) (t : Tst) : Bool := holdV (factV c t.fa) t.op t.va
theorem chkTs_zero {t : Tst} (h : chkTs t = 0) : t.fa ∈ fcL ∧ (t.op = [61] ∨ t.op = [60] ∨ t.op = [62]) := by
 unfold chkTs at h
 rw [firstI_zero] at h
 have h1 := h _ (List.mem_cons_self ..)
 have h2 := h (if opB t.op = true then 0 else 13) (by simp)
 refine ⟨Classical.byContradiction fun hn => ?_, ?_⟩
 ·rw [if_neg hn] at h1; cases h1
 ·cases ho : opB t.op with
  | false => rw [ho] at h2; cases h2
  | true => simpa [opB, or_assoc] using ho
section
variable {E : Oracle} (g : Good E)
include g
set_option maxRecDepth 100000
theorem s_IndexS (l : List (List UInt8)) (s : List UInt8) (hl : l.length ≤ 140737488355328) : Fc E n_slices_Index_Lstring_string [.d (.list l.length (l.map D.str)), S s] (I (idxG l s 0)) := by
 refine g.fn rfl rfl ?_
 conv => whnf
 refine LoopW.upP g (fun k => [(0, .d (.list l.length (l.map D.str))), (1, S s), (7, I l.length), (8, I k)]) (fun _ => []) (fun k => idxG l s 0 = idxG (l.drop k) s k) l.length (fun k hk hp ih => ?_) 0 (Nat.zero_le _) (by simp)
 by_cases hlt : k < l.length
 ·have hd := idxG_drop l s k hlt
  have hg : (l.map D.str)[((k : Int)).toNat * 1]? = some (.str l[k]) := by simp [hlt]
  by_cases he : s = l[k]
  ·rw [hp, hd, if_pos he]
   repeat' ((conv => whnf); first
   | refine Yz ?_
    | (refine Pick.now hg ?_)
    | (refine Cmp.tt he ?_)
    | (refine Ret.mk rfl))
  ·have ih := ih hlt (by rw [hp, hd, if_neg he])
   repeat' ((conv => whnf); first
   | refine Yz ?_
    | (refine Pick.now hg ?_)
    | (refine Cmp.ff he ?_)
    | (refine LoopW.to ih rfl rfl))
 ·have : l.drop k = [] := List.drop_eq_nil_of_le (by omega)
  rw [hp, this]
  repeat' ((conv => whnf); first
  | refine Yz ?_
   | (refine Ret.mk rfl))
theorem s_ContainsS (l : List (List UInt8)) (s : List UInt8) (hl : l.length ≤ 140737488355328) : Fc E n_slices_Contains_Lstring_string [.d (.list l.length (l.map D.str)), S s] (B (decide (s ∈ l))) := by
 refine g.fn rfl rfl ?_
 have h := s_IndexS g l s hl
 have hm := idxG_mem s l 0
 generalize idxG l s 0 = r at *
 by_cases hr : 0 ≤ r
 ·rw [decide_eq_true (hm.1 hr)]
  repeat' ((conv => whnf); first
  | refine Yz ?_
   | (apply CallI.of; assumption)
   | (refine Ret.mk rfl))
 ·rw [decide_eq_false fun h => hr (hm.2 h)]
  repeat' ((conv => whnf); first
  | refine Yz ?_
   | (apply CallI.of; assumption)
   | (refine Ret.mk rfl))
theorem s_TestCheck (t : Tst) : Fc E n_priority_Test_check [Tsv t] (I (chkTs t)) := by
 refine g.fn rfl rfl ?_
 have h1 := s_Facts g
 have h2 : Fc E n_slices_Contains_Lstring_string [.d (.list 10 (fcL.map D.str)), S t.fa] (B (decide (t.fa ∈ fcL))) := s_ContainsS g fcL t.fa (by decide)
 have h3 := s_pwithin g t.va 0 999999999
 have h4 : Fc E n_priority_first [.d (.list 3 [DI (if (!decide (t.fa ∈ fcL)) = true then 10 else 0), DI (if (!opB t.op) = true then 13 else 0), DI (rng t.va 0 999999999)])] (I (chkTs t)) := by
  have e : chkTs t = firstI [if (!decide (t.fa ∈ fcL)) = true then 10 else 0, if (!opB t.op) = true then 13 else 0, rng t.va 0 999999999] := by
   unfold chkTs
   cases opB t.op <;> by_cases hf : t.fa ∈ fcL <;> simp [hf]
  rw [e]
  exact s_pfirst3 g _ _ _
 generalize chkTs t = z at *
 generalize rng t.va 0 999999999 = y at *
 generalize decide (t.fa ∈ fcL) = b at *
 by_cases o1 : t.op = [61]
 ·have ho : opB t.op = true := by simp [opB, o1]
  rw [ho] at h4
  repeat' ((conv => whnf); first
  | refine Yz ?_
   | (apply CallI.of; assumption)
   | (refine CallI.of (s_pwhen g _ _) ?_)
   | (refine Cmp.ff (fun h => h o1) ?_)
   | (refine Ret.mk rfl))
 ·by_cases o2 : t.op = [60]
  ·have ho : opB t.op = true := by simp [opB, o2]
   rw [ho] at h4
   repeat' ((conv => whnf); first
   | refine Yz ?_
    | (apply CallI.of; assumption)
    | (refine CallI.of (s_pwhen g _ _) ?_)
    | (refine Cmp.tt o1 ?_)
    | (refine Cmp.ff (fun h => h o2) ?_)
    | (refine Ret.mk rfl))
  ·by_cases o3 : t.op = [62]
   ·have ho : opB t.op = true := by simp [opB, o3]
    rw [ho] at h4
    repeat' ((conv => whnf); first
    | refine Yz ?_
     | (apply CallI.of; assumption)
     | (refine CallI.of (s_pwhen g _ _) ?_)
     | (refine Cmp.tt o1 ?_)
     | (refine Cmp.tt o2 ?_)
     | (refine Cmp.ff (fun h => h o3) ?_)
     | (refine Ret.mk rfl))
   ·have ho : opB t.op = false := by simp [opB, o1, o2, o3]
    rw [ho] at h4
    repeat' ((conv => whnf); first
    | refine Yz ?_
     | (apply CallI.of; assumption)
     | (refine CallI.of (s_pwhen g _ _) ?_)
     | (refine Cmp.tt o1 ?_)
     | (refine Cmp.tt o2 ?_)
     | (refine Cmp.tt o3 ?_)
     | (refine Ret.mk rfl))
theorem fact_find (c : Clm) (s : List UInt8) (h : s ∈ fcL) (hc : chkCl c = 0) : ∃ n, findE (.str s) facM = some (some (.d (.agg [.str s, .fn n]))) ∧ Fc E n [Clv c] (I (factV c s)) := by
 have f5 := s_fact5 g c (chkCl_per hc)
 simp only [fcL, List.mem_cons, List.not_mem_nil, or_false] at h
 rcases h with rfl | rfl | rfl | rfl | rfl | rfl | rfl | rfl | rfl | rfl
 ·exact ⟨_, rfl, s_fact1 g c⟩
 ·exact ⟨_, rfl, s_fact2 g c⟩
 ·exact ⟨_, rfl, s_fact3 g c⟩
 ·exact ⟨_, rfl, s_fact4 g c⟩
 ·exact ⟨_, rfl, f5⟩
 ·exact ⟨_, rfl, s_fact6 g c⟩
 ·exact ⟨_, rfl, s_fact7 g c⟩
 ·exact ⟨_, rfl, s_fact8 g c⟩
 ·exact ⟨_, rfl, s_fact9 g c⟩
 ·exact ⟨_, rfl, s_fact10 g c⟩
set_option maxHeartbeats 4000000 in
theorem s_holdsV (c : Clm) (fa op : List UInt8) (va : Int) (hc : chkCl c = 0) (hf : fa ∈ fcL) (ho : op = [61] ∨ op = [60] ∨ op = [62]) : Fc E n_priority_holds [Clv c, .d (.agg [.str fa, .str op, DI va])] (B (holdV (factV c fa) op va)) := by
 refine g.fn rfl rfl ?_
 obtain ⟨n, h1, h2⟩ := fact_find g c fa hf hc
 unfold holdV
 generalize factV c fa = v at *
 rcases ho with rfl | rfl | rfl
 all_goals rcases Int.lt_trichotomy v va with h | h | h
 all_goals (first | rw [if_neg (by decide), if_neg (by decide)] | rw [if_neg (by decide), if_pos rfl] | rw [if_pos rfl])
 all_goals (first | rw [decide_eq_true (by omega)] | rw [decide_eq_false (by omega)])
 all_goals repeat' ((conv => whnf); first
 | refine Yz ?_
  | (refine CallS.known g rfl ?_)
  | (refine Find.mk ⟨_, h1, ?_⟩)
  | (apply CallI.of; assumption)
  | (refine Ret.mk rfl))
theorem s_holds (c : Clm) (t : Tst) (hc : chkCl c = 0) (ht : chkTs t = 0) : Fc E n_priority_holds [Clv c, Tsv t] (B (holdB c t)) := s_holdsV g c t.fa t.op t.va hc (chkTs_zero ht).1 (chkTs_zero ht).2
end
end Go.Proofs.YtlnlcdnpgjhaaacGreatDoor.Co
/-
 Priority: programs, checked by the program.
-/
namespace Go.Proofs.YtlnlcdnpgjhaaacGreatDoor.Co
open Go Go.Evl
set_option maxRecDepth 100000
theorem Tst.cells_length (t : Tst) : t.cells.length = 3 := rfl
structure Kyt where
 fa : List UInt8
 dn : Bool
def Kyt.cells (k : Kyt) : List D := [.str k.fa, .bool k.dn]
theorem Kyt.cells_length (k : Kyt) : k.cells.length = 2 := rfl
abbrev Kyv (k : Kyt) : V := .d (.agg k.cells)
structure Cls where
 nm : List UInt8
 wh : List Tst
 ky : List Kyt
def Cls.cells (c : Cls) : List D := [.str c.nm, .list c.wh.length (c.wh.flatMap Tst.cells), .list c.ky.length (c.ky.flatMap Kyt.cells)]
theorem Cls.cells_length (c : Cls) : c.cells.length = 3 := rfl
abbrev Csv (c : Cls) : V := .d (.agg c.cells)
abbrev LT (l : List Tst) : V := .d (.list l.length (l.flatMap Tst.cells))
abbrev LK (l : List Kyt) : V := .d (.list l.length (l.flatMap Kyt.cells))
abbrev LC (l : List Cls) : V := .d (.list l.length (l.flatMap Cls.cells))
structure Prg where
 cl : List Cls
 (po «of» fo : Int)
def Prg.cells (p : Prg) : List D := [.list p.cl.length (p.cl.flatMap Cls.cells), DI p.po, DI p.of, DI p.fo]
abbrev Pgv (p : Prg) : V := .d (.agg p.cells)
def chkTsG : List Tst → Int
 | [] => 0
 | t :: r => if chkTs t = 0 then chkTsG r else chkTs t
def nmsK (l : List Kyt) : List (List UInt8) := l.map (·.fa)
def chkKy (seen : List (List UInt8)) (k : Kyt) : Int := firstI [if k.fa ∈ fcL then 0 else 10, if k.fa ∈ seen then 9 else 0]
def chkKyG (seen : List (List UInt8)) : List Kyt → Int
 | [] => 0
 | k :: r => if chkKy seen k = 0 then chkKyG (seen ++ [k.fa]) r else chkKy seen k
def chkCs (c : Cls) : Int := firstI [nmE c.nm, if 8 < c.wh.length then 5 else 0, chkTsG c.wh, if 8 < c.ky.length then 5 else 0, chkKyG [] c.ky]
def nmsC (l : List Cls) : List (List UInt8) := l.map (·.nm)
def chkCa (seen : List (List UInt8)) (c : Cls) : Int := firstI [chkCs c, if c.nm ∈ seen then 9 else 0]
def chkCsG (seen : List (List UInt8)) : List Cls → Int
 | [] => 0
 | c :: r => if chkCa seen c = 0 then chkCsG (seen ++ [c.nm]) r else chkCa seen c
def chkPool (p : Prg) : Int := firstI [rng p.po 0 p.cl.length, rng p.of 1 100, rng p.fo 0 p.of]
def chkPg (p : Prg) : Int := firstI [if p.cl.length = 0 then 12 else 0, if 16 < p.cl.length then 5 else 0, chkCsG [] p.cl, chkPool p]
theorem nms_succ {α : Type} (f : α → List UInt8) {l : List α} {k : Nat} (h : k < l.length) : (l.take (k + 1)).map f = (l.take k).map f ++ [f l[k]] := by
 rw [List.take_add_one, List.getElem?_eq_getElem h, List.map_append]
 rfl
theorem win_takeG {α : Type} (f : α → List D) (n : Nat) (hf : ∀ a, (f a).length = n) (l : List α) (k : Nat) (h : k ≤ l.length) : win (l.flatMap f) 0 (k * n) = (l.take k).flatMap f := by
 unfold win
 rw [List.drop_zero]
 have e : l.flatMap f = (l.take k).flatMap f ++ (l.drop k).flatMap f := by rw [← List.flatMap_append, List.take_append_drop]
 have hn := flatR_length f n hf (l.take k)
 rw [List.length_take, Nat.min_eq_left h] at hn
 rw [e, List.take_append_of_le_length (by omega), List.take_of_length_le (by omega)]
theorem sl_take {α : Type} (f : α → List D) (n : Nat) (hf : ∀ a, (f a).length = n) (l : List α) (k : Nat) (h : k ≤ l.length) : V.d (.list (k - 0) (win (l.flatMap f) (0 * n) ((k - 0) * n))) = .d (.list (l.take k).length ((l.take k).flatMap f)) := by
 rw [Nat.zero_mul, Nat.sub_zero, win_takeG f n hf l k h, List.length_take, Nat.min_eq_left h]
section
variable {E : Oracle} (g : Good E)
include g
theorem s_Cc1 (l : List Tst) (t : Tst) : Fc E n_priority_Class_check_1 [LT l, Tsv t] (I (chkTs t)) := by
 refine g.fn rfl rfl ?_
 have h := s_TestCheck g t
 repeat' ((conv => whnf); first
 | refine Yz ?_
  | (apply CallI.of; assumption)
  | (refine Ret.mk rfl))
set_option maxHeartbeats 4000000 in
theorem s_eachT (l : List Tst) (hl : l.length ≤ 1000000) : Fc E n_priority_each_priority_Test [LT l, .d (.fn n_priority_Class_check_1)] (I (chkTsG l)) := by
 refine g.fn rfl rfl ?_
 generalize hR : chkTsG l = R
 repeat' ((conv => whnf); first
 | refine Yz ?_)
 refine LoopW.to (LoopW.upP g (fun k => [(0, LT l), (1, .d (.fn n_priority_Class_check_1)), (8, LT l), (9, I l.length), (10, I k)]) (fun _ => []) (fun k => chkTsG (l.drop k) = R) l.length (fun k hk h0 ih => ?_) 0 (Nat.zero_le _) hR) rfl rfl
 by_cases hlt : k < l.length
 ·rw [List.drop_eq_getElem_cons hlt, chkTsG] at h0
  have ih := ih hlt
  have hn := s_Cc1 g (l.take k) l[k]
  have ht := sl_take Tst.cells 3 Tst.cells_length l k (by omega)
  generalize chkTs l[k] = r at *
  by_cases hz : r = 0
  ·rw [if_pos hz] at h0
   have ih := ih h0
   repeat' ((conv => whnf); first
   | refine Yz ?_
    | (refine PickW.rec Tst.cells_length k rfl hlt ?_)
    | (refine Bounds.at 0 k rfl rfl (by omega) ?_ <;> (try rw [ht]))
    | (refine CallI.of hn ?_)
    | (refine Cmp.ff (fun h => h hz) ?_)
    | (refine LoopW.to ih rfl rfl))
  ·rw [if_neg hz] at h0
   rw [← h0]
   repeat' ((conv => whnf); first
   | refine Yz ?_
    | (refine PickW.rec Tst.cells_length k rfl hlt ?_)
    | (refine Bounds.at 0 k rfl rfl (by omega) ?_ <;> (try rw [ht]))
    | (refine CallI.of hn ?_)
    | (refine Cmp.tt hz ?_)
    | (refine Ret.mk rfl))
 ·rw [List.drop_eq_nil_of_le (by omega), chkTsG] at h0
  rw [← h0]
  repeat' ((conv => whnf); first
  | refine Yz ?_
   | (refine Ret.mk rfl))
set_option maxHeartbeats 4000000 in
theorem in_key (l : List Kyt) (q : Kyt) (hl : l.length ≤ 1000000) {K : V → Mem → Prop}
  (hK : K (I (idxG (nmsK l) q.fa 0)) [(⟨0, 3, 0⟩, .cells ty_priority_Key (q.cells.map V.d))]) :
  In E 2 n_slices_IndexFunc_Lpriority_Key_priority_Key [LK l, .fn n_priority_Class_check_2_1 [] [.ptr ⟨0, 3, 0⟩ 0 0]] [(⟨0, 3, 0⟩, .cells ty_priority_Key (q.cells.map V.d))] K := by
 generalize hA : idxG (nmsK l) q.fa 0 = A at *
 refine In.enter (f := n_slices_IndexFunc_Lpriority_Key_priority_Key) g.lim rfl rfl ?_
 repeat' ((conv => whnf); first
 | refine Yz ?_)
 refine LoopW.to (LoopW.upP g (fun k => [(0, LK l), (1, .fn n_priority_Class_check_2_1 [] [.ptr ⟨0, 3, 0⟩ 0 0]), (7, I l.length), (8, I k)]) (fun _ => _) (fun k => idxG (nmsK (l.drop k)) q.fa k = A) l.length (fun k hk h0 ih => ?_) 0 (Nat.zero_le _) hA) rfl rfl
 by_cases hlt : k < l.length
 ·rw [List.drop_eq_getElem_cons hlt, nmsK, List.map_cons, idxG] at h0
  have ih := ih hlt
  by_cases hd : l[k].fa = q.fa
  ·rw [if_pos hd.symm] at h0
   subst h0
   repeat' ((conv => whnf); first
   | refine Yz ?_
    | (refine PickW.rec Kyt.cells_length k rfl hlt ?_)
    | (refine In.enter (f := n_priority_Class_check_2_1) g.lim rfl rfl ?_)
    | (refine Cmp.tt hd ?_)
    | (exact hK))
  ·rw [if_neg (Ne.symm hd)] at h0
   have ih := ih h0
   repeat' ((conv => whnf); first
   | refine Yz ?_
    | (refine PickW.rec Kyt.cells_length k rfl hlt ?_)
    | (refine In.enter (f := n_priority_Class_check_2_1) g.lim rfl rfl ?_)
    | (refine Cmp.ff hd ?_)
    | (refine LoopW.to ih rfl rfl))
 ·rw [List.drop_eq_nil_of_le (by omega), nmsK, List.map_nil, idxG] at h0
  subst h0
  repeat' ((conv => whnf); first
  | refine Yz ?_
   | (exact hK))
set_option maxHeartbeats 4000000 in
theorem s_Cc2 (l : List Kyt) (q : Kyt) (hl : l.length ≤ 1000000) : Fc E n_priority_Class_check_2 [LK l, Kyv q] (I (chkKy (nmsK l) q)) := by
 refine g.fn rfl rfl ?_
 have h1 := s_Facts g
 have h2 : Fc E n_slices_Contains_Lstring_string [.d (.list 10 (fcL.map D.str)), S q.fa] (B (decide (q.fa ∈ fcL))) := s_ContainsS g fcL q.fa (by decide)
 have h3 := s_pfirst2 g (if (!decide (q.fa ∈ fcL)) = true then 10 else 0) (if q.fa ∈ nmsK l then 9 else 0)
 have e : chkKy (nmsK l) q = firstI [if (!decide (q.fa ∈ fcL)) = true then 10 else 0, if q.fa ∈ nmsK l then 9 else 0] := by
  unfold chkKy
  by_cases hf : q.fa ∈ fcL <;> simp [hf]
 rw [e]
 have hm := idxG_mem q.fa (nmsK l) 0
 have hin := fun {K} => in_key g (K := K) l q hl
 generalize idxG (nmsK l) q.fa 0 = r at *
 generalize decide (q.fa ∈ fcL) = b at *
 by_cases hr : 0 ≤ r
 ·rw [if_pos (hm.1 hr)] at h3 ⊢
  repeat' ((conv => whnf); first
  | refine Yz ?_
   | (refine In.enter (f := n_slices_ContainsFunc_Lpriority_Key_priority_Key) g.lim rfl rfl ?_)
   | (refine hin ?_)
   | (apply CallI.of; assumption)
   | (refine CallI.of (s_pwhen g _ _) ?_)
   | (refine Ret.mk rfl))
 ·rw [if_neg (fun h => hr (hm.2 h))] at h3 ⊢
  repeat' ((conv => whnf); first
  | refine Yz ?_
   | (refine In.enter (f := n_slices_ContainsFunc_Lpriority_Key_priority_Key) g.lim rfl rfl ?_)
   | (refine hin ?_)
   | (apply CallI.of; assumption)
   | (refine CallI.of (s_pwhen g _ _) ?_)
   | (refine Ret.mk rfl))
set_option maxHeartbeats 4000000 in
theorem s_eachK (l : List Kyt) (hl : l.length ≤ 1000000) : Fc E n_priority_each_priority_Key [LK l, .d (.fn n_priority_Class_check_2)] (I (chkKyG [] l)) := by
 refine g.fn rfl rfl ?_
 generalize hR : chkKyG [] l = R
 repeat' ((conv => whnf); first
 | refine Yz ?_)
 refine LoopW.to (LoopW.upP g (fun k => [(0, LK l), (1, .d (.fn n_priority_Class_check_2)), (8, LK l), (9, I l.length), (10, I k)]) (fun _ => []) (fun k => chkKyG (nmsK (l.take k)) (l.drop k) = R) l.length (fun k hk h0 ih => ?_) 0 (Nat.zero_le _) hR) rfl rfl
 by_cases hlt : k < l.length
 ·have hs : nmsK (l.take (k + 1)) = nmsK (l.take k) ++ [l[k].fa] := nms_succ Kyt.fa hlt
  rw [List.drop_eq_getElem_cons hlt, chkKyG, ← hs] at h0
  have ih := ih hlt
  have hn := s_Cc2 g (l.take k) l[k] (by simp; omega)
  have ht := sl_take Kyt.cells 2 Kyt.cells_length l k (by omega)
  generalize chkKy (nmsK (l.take k)) l[k] = r at *
  by_cases hz : r = 0
  ·rw [if_pos hz] at h0
   have ih := ih h0
   repeat' ((conv => whnf); first
   | refine Yz ?_
    | (refine PickW.rec Kyt.cells_length k rfl hlt ?_)
    | (refine Bounds.at 0 k rfl rfl (by omega) ?_ <;> (try rw [ht]))
    | (refine CallI.of hn ?_)
    | (refine Cmp.ff (fun h => h hz) ?_)
    | (refine LoopW.to ih rfl rfl))
  ·rw [if_neg hz] at h0
   rw [← h0]
   repeat' ((conv => whnf); first
   | refine Yz ?_
    | (refine PickW.rec Kyt.cells_length k rfl hlt ?_)
    | (refine Bounds.at 0 k rfl rfl (by omega) ?_ <;> (try rw [ht]))
    | (refine CallI.of hn ?_)
    | (refine Cmp.tt hz ?_)
    | (refine Ret.mk rfl))
 ·rw [List.drop_eq_nil_of_le (by omega), chkKyG] at h0
  rw [← h0]
  repeat' ((conv => whnf); first
  | refine Yz ?_
   | (refine Ret.mk rfl))
end
end Go.Proofs.YtlnlcdnpgjhaaacGreatDoor.Co
/-
 Priority: CheckProgram, by the program.
-/
namespace Go.Proofs.YtlnlcdnpgjhaaacGreatDoor.Co
open Go Go.Evl
set_option maxRecDepth 100000
theorem firstI_two (a b : Int) (r : List Int) : firstI (a :: b :: r) = if firstI [a, b] = 0 then firstI r else firstI [a, b] := by
 simp only [firstI]
 by_cases ha : a = 0
 ·by_cases hb : b = 0 <;> simp [ha, hb]
 ·simp [ha]
def SmallC (c : Cls) : Prop := c.wh.length ≤ 1000000 ∧ c.ky.length ≤ 1000000
def SmallP (p : Prg) : Prop := p.cl.length ≤ 1000000 ∧ ∀ c ∈ p.cl, SmallC c
section
variable {E : Oracle} (g : Good E)
include g
set_option maxHeartbeats 4000000 in
theorem s_ClassCheck (c : Cls) (hs : SmallC c) : Fc E n_priority_Class_check [Csv c] (I (chkCs c)) := by
 refine g.fn rfl rfl ?_
 have h1 := s_IsName g c.nm
 have h2 := s_eachT g c.wh hs.1
 have h3 := s_eachK g c.ky hs.2
 have hp := s_pfirst2 g (nmE c.nm) (if 8 < c.wh.length then 5 else 0)
 have hq := s_pfirst3 g (chkTsG c.wh) (if 8 < c.ky.length then 5 else 0) (chkKyG [] c.ky)
 unfold chkCs
 rw [firstI_two]
 unfold nmE at *
 obtain ⟨l1, l2⟩ := hs
 generalize firstI [chkTsG c.wh, if 8 < c.ky.length then 5 else 0, chkKyG [] c.ky] = q at *
 by_cases n1 : 8 < c.wh.length
 ·rw [if_pos n1] at hp ⊢
  generalize isNameB c.nm = b at *
  have hz : firstI [if (!b) = true then 8 else 0, 5] ≠ 0 := by cases b <;> decide
  rw [if_neg hz]
  generalize firstI [if (!b) = true then 8 else 0, 5] = r at *
  repeat' ((conv => whnf); first
  | refine Yz ?_
   | (apply CallI.of; assumption)
   | (refine CallI.of (s_pwhen g _ _) ?_)
   | (refine Cmp.tt hz ?_)
   | (refine Ret.mk rfl))
 ·rw [if_neg n1] at hp ⊢
  generalize isNameB c.nm = b at *
  generalize firstI [if (!b) = true then 8 else 0, 0] = r at *
  by_cases hz : r = 0
  ·rw [if_pos hz]
   by_cases n2 : 8 < c.ky.length
   ·rw [if_pos n2] at hq
    repeat' ((conv => whnf); first
    | refine Yz ?_
     | (apply CallI.of; assumption)
     | (refine CallI.of (s_pwhen g _ _) ?_)
     | (refine Cmp.ff (fun h => h hz) ?_)
     | (refine Ret.mk rfl))
   ·rw [if_neg n2] at hq
    repeat' ((conv => whnf); first
    | refine Yz ?_
     | (apply CallI.of; assumption)
     | (refine CallI.of (s_pwhen g _ _) ?_)
     | (refine Cmp.ff (fun h => h hz) ?_)
     | (refine Ret.mk rfl))
  ·rw [if_neg hz]
   repeat' ((conv => whnf); first
   | refine Yz ?_
    | (apply CallI.of; assumption)
    | (refine CallI.of (s_pwhen g _ _) ?_)
    | (refine Cmp.tt hz ?_)
    | (refine Ret.mk rfl))
set_option maxHeartbeats 4000000 in
theorem in_cls (l : List Cls) (q : Cls) (hl : l.length ≤ 1000000) {K : V → Mem → Prop}
  (hK : K (I (idxG (nmsC l) q.nm 0)) [(⟨0, 3, 0⟩, .cells ty_priority_Class [V.d (.str q.nm), V.d (.list q.wh.length (q.wh.flatMap Tst.cells)), V.d (.list q.ky.length (q.ky.flatMap Kyt.cells))])]) :
  In E 2 n_slices_IndexFunc_Lpriority_Class_priority_Class [LC l, .fn n_priority_added_1 [] [.ptr ⟨0, 3, 0⟩ 0 0]] [(⟨0, 3, 0⟩, .cells ty_priority_Class [V.d (.str q.nm), V.d (.list q.wh.length (q.wh.flatMap Tst.cells)), V.d (.list q.ky.length (q.ky.flatMap Kyt.cells))])] K := by
 generalize hA : idxG (nmsC l) q.nm 0 = A at *
 refine In.enter (f := n_slices_IndexFunc_Lpriority_Class_priority_Class) g.lim rfl rfl ?_
 repeat' ((conv => whnf); first
 | refine Yz ?_)
 refine LoopW.to (LoopW.upP g (fun k => [(0, LC l), (1, .fn n_priority_added_1 [] [.ptr ⟨0, 3, 0⟩ 0 0]), (7, I l.length), (8, I k)]) (fun _ => _) (fun k => idxG (nmsC (l.drop k)) q.nm k = A) l.length (fun k hk h0 ih => ?_) 0 (Nat.zero_le _) hA) rfl rfl
 by_cases hlt : k < l.length
 ·rw [List.drop_eq_getElem_cons hlt, nmsC, List.map_cons, idxG] at h0
  have ih := ih hlt
  by_cases hd : l[k].nm = q.nm
  ·rw [if_pos hd.symm] at h0
   subst h0
   repeat' ((conv => whnf); first
   | refine Yz ?_
    | (refine PickW.rec Cls.cells_length k rfl hlt ?_)
    | (refine In.enter (f := n_priority_added_1) g.lim rfl rfl ?_)
    | (refine Cmp.tt hd ?_)
    | (exact hK))
  ·rw [if_neg (Ne.symm hd)] at h0
   have ih := ih h0
   repeat' ((conv => whnf); first
   | refine Yz ?_
    | (refine PickW.rec Cls.cells_length k rfl hlt ?_)
    | (refine In.enter (f := n_priority_added_1) g.lim rfl rfl ?_)
    | (refine Cmp.ff hd ?_)
    | (refine LoopW.to ih rfl rfl))
 ·rw [List.drop_eq_nil_of_le (by omega), nmsC, List.map_nil, idxG] at h0
  subst h0
  repeat' ((conv => whnf); first
  | refine Yz ?_
   | (exact hK))
set_option maxHeartbeats 4000000 in
theorem s_added (l : List Cls) (c : Cls) (hl : l.length ≤ 1000000) (hs : SmallC c) : Fc E n_priority_added [LC l, Csv c] (I (chkCa (nmsC l) c)) := by
 refine g.fn rfl rfl ?_
 have h1 := s_ClassCheck g c hs
 have h3 := s_pfirst2 g (chkCs c) (if c.nm ∈ nmsC l then 9 else 0)
 unfold chkCa
 have hm := idxG_mem c.nm (nmsC l) 0
 have hin := fun {K} => in_cls g (K := K) l c hl
 generalize idxG (nmsC l) c.nm 0 = r at *
 generalize chkCs c = e at *
 by_cases hr : 0 ≤ r
 ·rw [if_pos (hm.1 hr)] at h3 ⊢
  repeat' ((conv => whnf); first
  | refine Yz ?_
   | (refine In.enter (f := n_slices_ContainsFunc_Lpriority_Class_priority_Class) g.lim rfl rfl ?_)
   | (refine hin ?_)
   | (apply CallI.of; assumption)
   | (refine CallI.of (s_pwhen g _ _) ?_)
   | (refine Ret.mk rfl))
 ·rw [if_neg (fun h => hr (hm.2 h))] at h3 ⊢
  repeat' ((conv => whnf); first
  | refine Yz ?_
   | (refine In.enter (f := n_slices_ContainsFunc_Lpriority_Class_priority_Class) g.lim rfl rfl ?_)
   | (refine hin ?_)
   | (apply CallI.of; assumption)
   | (refine CallI.of (s_pwhen g _ _) ?_)
   | (refine Ret.mk rfl))
set_option maxHeartbeats 4000000 in
theorem s_eachC (l : List Cls) (hl : l.length ≤ 1000000) (hs : ∀ c ∈ l, SmallC c) : Fc E n_priority_each_priority_Class [LC l, .d (.fn n_priority_added)] (I (chkCsG [] l)) := by
 refine g.fn rfl rfl ?_
 generalize hR : chkCsG [] l = R
 repeat' ((conv => whnf); first
 | refine Yz ?_)
 refine LoopW.to (LoopW.upP g (fun k => [(0, LC l), (1, .d (.fn n_priority_added)), (8, LC l), (9, I l.length), (10, I k)]) (fun _ => []) (fun k => chkCsG (nmsC (l.take k)) (l.drop k) = R) l.length (fun k hk h0 ih => ?_) 0 (Nat.zero_le _) hR) rfl rfl
 by_cases hlt : k < l.length
 ·have e : nmsC (l.take (k + 1)) = nmsC (l.take k) ++ [l[k].nm] := nms_succ Cls.nm hlt
  rw [List.drop_eq_getElem_cons hlt, chkCsG, ← e] at h0
  have ih := ih hlt
  have hn := s_added g (l.take k) l[k] (by simp; omega) (hs _ (List.getElem_mem hlt))
  have ht := sl_take Cls.cells 3 Cls.cells_length l k (by omega)
  generalize chkCa (nmsC (l.take k)) l[k] = r at *
  by_cases hz : r = 0
  ·rw [if_pos hz] at h0
   have ih := ih h0
   repeat' ((conv => whnf); first
   | refine Yz ?_
    | (refine PickW.rec Cls.cells_length k rfl hlt ?_)
    | (refine Bounds.at 0 k rfl rfl (by omega) ?_ <;> (try rw [ht]))
    | (refine CallI.of hn ?_)
    | (refine Cmp.ff (fun h => h hz) ?_)
    | (refine LoopW.to ih rfl rfl))
  ·rw [if_neg hz] at h0
   rw [← h0]
   repeat' ((conv => whnf); first
   | refine Yz ?_
    | (refine PickW.rec Cls.cells_length k rfl hlt ?_)
    | (refine Bounds.at 0 k rfl rfl (by omega) ?_ <;> (try rw [ht]))
    | (refine CallI.of hn ?_)
    | (refine Cmp.tt hz ?_)
    | (refine Ret.mk rfl))
 ·rw [List.drop_eq_nil_of_le (by omega), chkCsG] at h0
  rw [← h0]
  repeat' ((conv => whnf); first
  | refine Yz ?_
   | (refine Ret.mk rfl))
theorem s_ppool (p : Prg) : Fc E n_priority_Program_pool [Pgv p] (I (chkPool p)) := by
 refine g.fn rfl rfl ?_
 have h := s_pwithin g
 repeat' ((conv => whnf); first
 | refine Yz ?_
  | (refine CallI.of (h _ _ _) ?_)
  | (refine CallI.of (s_pfirst3 g _ _ _) ?_)
  | (refine Ret.mk rfl))
set_option maxHeartbeats 4000000 in
theorem s_CheckProgram (p : Prg) (hs : SmallP p) : Fc E n_priority_CheckProgram [Pgv p] (I (chkPg p)) := by
 refine g.fn rfl rfl ?_
 have h1 := s_eachC g p.cl hs.1 hs.2
 have h2 := s_ppool g p
 have hq := s_pfirst2 g (chkCsG [] p.cl) (chkPool p)
 have hl := hs.1
 unfold chkPg
 rw [firstI_two]
 generalize firstI [chkCsG [] p.cl, chkPool p] = q at *
 by_cases n1 : p.cl.length = 0
 ·rw [if_pos n1, if_neg (show ¬ 16 < p.cl.length by omega), if_neg (show ¬ firstI [12, 0] = 0 by decide)]
  repeat' ((conv => whnf); first
  | refine Yz ?_
   | (apply CallI.of; assumption)
   | (refine CallI.of (s_pwhen g _ _) ?_)
   | (refine CallI.of (s_pfirst2 g _ _) ?_)
   | (refine Ret.mk rfl))
 ·rw [if_neg n1]
  by_cases n2 : 16 < p.cl.length
  ·rw [if_pos n2, if_neg (show ¬ firstI [0, 5] = 0 by decide)]
   repeat' ((conv => whnf); first
   | refine Yz ?_
    | (apply CallI.of; assumption)
    | (refine CallI.of (s_pwhen g _ _) ?_)
    | (refine CallI.of (s_pfirst2 g _ _) ?_)
    | (refine Ret.mk rfl))
  ·rw [if_neg n2, if_pos (show firstI [0, 0] = 0 by decide)]
   repeat' ((conv => whnf); first
   | refine Yz ?_
    | (apply CallI.of; assumption)
    | (refine CallI.of (s_pwhen g _ _) ?_)
    | (refine CallI.of (s_pfirst2 g _ _) ?_)
    | (refine Ret.mk rfl))
end
end Go.Proofs.YtlnlcdnpgjhaaacGreatDoor.Co
/-
 Priority: lists of claims, checked by the program and by the reference; the law's copy of them.
-/
namespace Go.Proofs.YtlnlcdnpgjhaaacGreatDoor.Co
open Go Go.Evl
set_option maxRecDepth 100000
def nmsM (l : List Clm) : List (List UInt8) := l.map (·.rq.nm)
def chkCm (seen : List (List UInt8)) (c : Clm) : Int := firstI [chkCl c, if c.rq.nm ∈ seen then 9 else 0]
def chkCmG (seen : List (List UInt8)) : List Clm → Int
 | [] => 0
 | c :: r => if chkCm seen c = 0 then chkCmG (seen ++ [c.rq.nm]) r else chkCm seen c
def chkCms (l : List Clm) : Int := if 64 < l.length then 5 else chkCmG [] l
theorem chkCmG_zero : ∀ {l : List Clm} {seen : List (List UInt8)}, chkCmG seen l = 0 → (∀ c ∈ l, chkCl c = 0) ∧ (∀ c ∈ l, c.rq.nm ∉ seen) ∧ (nmsM l).Nodup
 | [], _, _ => ⟨fun _ h => (by cases h), fun _ h => (by cases h), List.Pairwise.nil⟩
 | x :: r, seen, h => by
  rw [chkCmG] at h
  by_cases hz : chkCm seen x = 0
  ·rw [if_pos hz] at h
   obtain ⟨h1, h2, h3⟩ := chkCmG_zero h
   unfold chkCm at hz
   rw [firstI_zero] at hz
   have z1 := hz (chkCl x) (by simp)
   have z2 := hz (if x.rq.nm ∈ seen then 9 else 0) (by simp)
   have z3 : x.rq.nm ∉ seen := fun hc => by rw [if_pos hc] at z2; cases z2
   refine ⟨fun c hc => ?_, fun c hc => ?_, ?_⟩
   ·rcases List.mem_cons.1 hc with rfl | hc
    ·exact z1
    ·exact h1 c hc
   ·rcases List.mem_cons.1 hc with rfl | hc
    ·exact z3
    ·exact fun hm => h2 c hc (by simp [hm])
   ·refine List.nodup_cons.2 ⟨fun hm => ?_, h3⟩
    obtain ⟨c, hc, e⟩ := List.mem_map.1 hm
    exact h2 c hc (by simp [e])
  ·rw [if_neg hz] at h
   exact absurd h hz
theorem chkCms_zero {l : List Clm} (h : chkCms l = 0) : l.length ≤ 64 ∧ (∀ c ∈ l, chkCl c = 0) ∧ (nmsM l).Nodup := by
 unfold chkCms at h
 by_cases hl : 64 < l.length
 ·rw [if_pos hl] at h; cases h
 ·rw [if_neg hl] at h
  have := chkCmG_zero h
  exact ⟨by omega, this.1, this.2.2⟩
theorem nmsM_in {l : List Clm} {s : List UInt8} {j : Nat} (h : j < l.length) (e : l[j].rq.nm = s) : s ∈ nmsM l := List.mem_map.2 ⟨_, List.getElem_mem h, e⟩
theorem nmsM_out {l : List Clm} {k : Nat} (h : k < l.length) {s : List UInt8} (hn : s ∉ nmsM (l.take k)) (e : l[k].rq.nm ≠ s) : s ∉ nmsM (l.take (k + 1)) := by
 unfold nmsM at *
 rw [nms_succ (fun c : Clm => c.rq.nm) h]
 intro hm
 rcases List.mem_append.1 hm with h1 | h1
 ·exact hn h1
 ·exact e (List.mem_singleton.1 h1).symm
abbrev clmV (q : Clm) : List V := [S q.rq.nm, S q.rq.ca, S q.rq.ki, S q.rq.te, S q.rq.pa, S q.rq.li, I q.rq.fr, I q.rq.to, I q.rq.da, I q.rq.mi, I q.rq.se, I q.rq.si, I q.rq.no, B q.hi, B q.re, B q.ne, B q.ye, I q.di]
theorem Pick.rec00 {α : Type} {cell : α → List D} {w : Nat} (hw : ∀ a, (cell a).length = w) {l : List α} {i : Int} {K : D → Prop} {d : D} (k : Nat) (hi : i = k) (h : k < l.length) (hj : (cell l[k])[0]? = some d) (hk : K d) : Pick (l.flatMap cell) (i.toNat * w + 0 + 0) K := Pick.rec hw k hi h hj hk
theorem PickW.partC {α : Type} {cell : α → List D} {w : Nat} (hw : ∀ a, (cell a).length = w) {l : List α} {i : Int} {j n : Nat} {ds : List D} {K : List D → Prop} (k : Nat) (hi : i = k) (h : k < l.length) (hj : j + n ≤ w) (hd : win (cell l[k]) j n = ds) (hk : K ds) : PickW (l.flatMap cell) (i.toNat * w + j) n K := by
 subst hi
 rw [Int.toNat_natCast]
 have h1 := flatR_length cell w hw l
 have h2 : (k + 1) * w ≤ l.length * w := Nat.mul_le_mul_right _ h
 rw [Nat.succ_mul] at h2
 refine ⟨by omega, ?_⟩
 have e : win (l.flatMap cell) (k * w + j) n = ds := by
  rw [← hd]
  unfold win
  rw [← List.drop_drop, flatR_drop cell w hw, List.drop_eq_getElem_cons h, List.flatMap_cons, List.drop_append_of_le_length (by rw [hw]; omega), List.take_append_of_le_length (by rw [List.length_drop, hw]; omega)]
 rw [e]; exact hk
section
variable {E : Oracle} (g : Good E)
include g
set_option maxHeartbeats 4000000 in
theorem in_clm (l : List Clm) (q : Clm) (hl : l.length ≤ 1000000) {K : V → Mem → Prop} (hK : K (I (idxG (nmsM l) q.rq.nm 0)) [(⟨0, 3, 0⟩, .cells ty_priority_Claim (clmV q))]) :
  In E 2 n_slices_IndexFunc_Lpriority_Claim_priority_Claim [LM l, .fn n_priority_checkClaims_1_1 [] [.ptr ⟨0, 3, 0⟩ 0 0]] [(⟨0, 3, 0⟩, .cells ty_priority_Claim (clmV q))] K := by
 generalize hA : idxG (nmsM l) q.rq.nm 0 = A at *
 refine In.enter (f := n_slices_IndexFunc_Lpriority_Claim_priority_Claim) g.lim rfl rfl ?_
 repeat' ((conv => whnf); first
 | refine Yz ?_)
 refine LoopW.to (LoopW.upP g (fun k => [(0, LM l), (1, .fn n_priority_checkClaims_1_1 [] [.ptr ⟨0, 3, 0⟩ 0 0]), (7, I l.length), (8, I k)]) (fun _ => _) (fun k => idxG (nmsM (l.drop k)) q.rq.nm k = A) l.length (fun k hk h0 ih => ?_) 0 (Nat.zero_le _) hA) rfl rfl
 by_cases hlt : k < l.length
 ·rw [List.drop_eq_getElem_cons hlt, nmsM, List.map_cons, idxG] at h0
  have ih := ih hlt
  by_cases hd : l[k].rq.nm = q.rq.nm
  ·rw [if_pos hd.symm] at h0
   subst h0
   repeat' ((conv => whnf); first
   | refine Yz ?_
    | (refine PickW.rec Clm.cells_length k rfl hlt ?_)
    | (refine In.enter (f := n_priority_checkClaims_1_1) g.lim rfl rfl ?_)
    | (refine Cmp.tt hd ?_)
    | (exact hK))
  ·rw [if_neg (Ne.symm hd)] at h0
   have ih := ih h0
   repeat' ((conv => whnf); first
   | refine Yz ?_
    | (refine PickW.rec Clm.cells_length k rfl hlt ?_)
    | (refine In.enter (f := n_priority_checkClaims_1_1) g.lim rfl rfl ?_)
    | (refine Cmp.ff hd ?_)
    | (refine LoopW.to ih rfl rfl))
 ·rw [List.drop_eq_nil_of_le (by omega), nmsM, List.map_nil, idxG] at h0
  subst h0
  repeat' ((conv => whnf); first
  | refine Yz ?_
   | (exact hK))
set_option maxHeartbeats 4000000 in
theorem s_cC1 (l : List Clm) (q : Clm) (hl : l.length ≤ 1000000) : Fc E n_priority_checkClaims_1 [LM l, Clv q] (I (chkCm (nmsM l) q)) := by
 refine g.fn rfl rfl ?_
 have h1 := s_CheckClaim g q
 have h3 := s_pfirst2 g (chkCl q) (if q.rq.nm ∈ nmsM l then 9 else 0)
 unfold chkCm
 have hm := idxG_mem q.rq.nm (nmsM l) 0
 have hin := fun {K} => in_clm g (K := K) l q hl
 generalize idxG (nmsM l) q.rq.nm 0 = r at *
 generalize chkCl q = e at *
 by_cases hr : 0 ≤ r
 ·rw [if_pos (hm.1 hr)] at h3 ⊢
  repeat' ((conv => whnf); first
  | refine Yz ?_
   | (refine In.enter (f := n_slices_ContainsFunc_Lpriority_Claim_priority_Claim) g.lim rfl rfl ?_)
   | (refine hin ?_)
   | (apply CallI.of; assumption)
   | (refine CallI.of (s_pwhen g _ _) ?_)
   | (refine Ret.mk rfl))
 ·rw [if_neg (fun h => hr (hm.2 h))] at h3 ⊢
  repeat' ((conv => whnf); first
  | refine Yz ?_
   | (refine In.enter (f := n_slices_ContainsFunc_Lpriority_Claim_priority_Claim) g.lim rfl rfl ?_)
   | (refine hin ?_)
   | (apply CallI.of; assumption)
   | (refine CallI.of (s_pwhen g _ _) ?_)
   | (refine Ret.mk rfl))
set_option maxHeartbeats 4000000 in
theorem s_eachM (l : List Clm) (hl : l.length ≤ 1000000) : Fc E n_priority_each_priority_Claim [LM l, .d (.fn n_priority_checkClaims_1)] (I (chkCmG [] l)) := by
 refine g.fn rfl rfl ?_
 generalize hR : chkCmG [] l = R
 repeat' ((conv => whnf); first
 | refine Yz ?_)
 refine LoopW.to (LoopW.upP g (fun k => [(0, LM l), (1, .d (.fn n_priority_checkClaims_1)), (8, LM l), (9, I l.length), (10, I k)]) (fun _ => []) (fun k => chkCmG (nmsM (l.take k)) (l.drop k) = R) l.length (fun k hk h0 ih => ?_) 0 (Nat.zero_le _) hR) rfl rfl
 by_cases hlt : k < l.length
 ·have hs : nmsM (l.take (k + 1)) = nmsM (l.take k) ++ [l[k].rq.nm] := nms_succ (fun c : Clm => c.rq.nm) hlt
  rw [List.drop_eq_getElem_cons hlt, chkCmG, ← hs] at h0
  have ih := ih hlt
  have hn := s_cC1 g (l.take k) l[k] (by simp; omega)
  have ht := sl_take Clm.cells 18 Clm.cells_length l k (by omega)
  generalize chkCm (nmsM (l.take k)) l[k] = r at *
  by_cases hz : r = 0
  ·rw [if_pos hz] at h0
   have ih := ih h0
   repeat' ((conv => whnf); first
   | refine Yz ?_
    | (refine PickW.rec Clm.cells_length k rfl hlt ?_)
    | (refine Bounds.at 0 k rfl rfl (by omega) ?_ <;> (try rw [ht]))
    | (refine CallI.of hn ?_)
    | (refine Cmp.ff (fun h => h hz) ?_)
    | (refine LoopW.to ih rfl rfl))
  ·rw [if_neg hz] at h0
   rw [← h0]
   repeat' ((conv => whnf); first
   | refine Yz ?_
    | (refine PickW.rec Clm.cells_length k rfl hlt ?_)
    | (refine Bounds.at 0 k rfl rfl (by omega) ?_ <;> (try rw [ht]))
    | (refine CallI.of hn ?_)
    | (refine Cmp.tt hz ?_)
    | (refine Ret.mk rfl))
 ·rw [List.drop_eq_nil_of_le (by omega), chkCmG] at h0
  rw [← h0]
  repeat' ((conv => whnf); first
  | refine Yz ?_
   | (refine Ret.mk rfl))
theorem s_checkClaims (l : List Clm) (hl : l.length ≤ 1000000) : Fc E n_priority_checkClaims [LM l] (I (chkCms l)) := by
 refine g.fn rfl rfl ?_
 have h := s_eachM g l hl
 unfold chkCms
 by_cases hm : 64 < l.length
 ·rw [if_pos hm]
  repeat' ((conv => whnf); first
  | refine Yz ?_
   | (refine Ret.mk rfl))
 ·rw [if_neg hm]
  repeat' ((conv => whnf); first
  | refine Yz ?_
   | (apply CallI.of; assumption)
   | (refine Ret.mk rfl))
set_option maxHeartbeats 4000000 in
theorem r_CheckClaims (l : List Clm) (hl : l.length ≤ 1000000) : Fc E n_ref05_CheckClaims [LM l] (I (chkCms l)) := by
 refine g.fn rfl rfl ?_
 unfold chkCms
 by_cases hm : 64 < l.length
 ·rw [if_pos hm]
  repeat' ((conv => whnf); first
  | refine Yz ?_
   | (refine Ret.mk rfl))
 ·rw [if_neg hm]
  generalize hR : chkCmG [] l = R
  repeat' ((conv => whnf); first
  | refine Yz ?_)
  refine LoopW.to (LoopW.upP g (fun k => [(0, LM l), (3, I k)]) (fun _ => []) (fun k => chkCmG (nmsM (l.take k)) (l.drop k) = R) l.length (fun k hk h0 ih => ?_) 0 (Nat.zero_le _) hR) rfl rfl
  by_cases hlt : k < l.length
  ·have hs : nmsM (l.take (k + 1)) = nmsM (l.take k) ++ [l[k].rq.nm] := nms_succ (fun c : Clm => c.rq.nm) hlt
   rw [List.drop_eq_getElem_cons hlt, chkCmG, ← hs] at h0
   have ih := ih hlt
   have hn := r_CheckClaim g l[k]
   by_cases hz : chkCl l[k] = 0
   ·rw [hz] at hn
    repeat' ((conv => whnf); first
    | refine Yz ?_
     | (refine PickW.rec Clm.cells_length k rfl hlt ?_)
     | (refine CallI.of hn ?_))
    refine LoopW.to (LoopW.upP g (fun j => [(0, LM l), (3, I k), (4, I 0), (5, I j)]) (fun _ => []) (fun j => l[k].rq.nm ∉ nmsM (l.take j)) k (fun j hj hno jh => ?_) 0 (Nat.zero_le _) (by simp [nmsM])) rfl rfl
    by_cases hjk : j < k
    ·have hjl : j < l.length := by omega
     replace jh := jh hjk
     by_cases hd : l[j].rq.nm = l[k].rq.nm
     ·have hin : l[k].rq.nm ∈ nmsM (l.take k) := by
       refine nmsM_in (j := j) (by simp; omega) ?_
       rw [List.getElem_take]
       exact hd
      have he : chkCm (nmsM (l.take k)) l[k] = 9 := by
       unfold chkCm
       rw [hz, if_pos hin]
       rfl
      rw [he, if_neg (by decide)] at h0
      rw [← h0]
      repeat' ((conv => whnf); first
      | refine Yz ?_
       | (refine Pick.rec00 Clm.cells_length j rfl hjl rfl ?_)
       | (refine Pick.rec00 Clm.cells_length k rfl hlt rfl ?_)
       | (refine Cmp.tt hd ?_)
       | (refine LoopW.step g.lim ?_)
       | (refine Ret.mk rfl)
       | (refine Cmp.mk (fun h => ?_) (fun h => ?_)) | (refine Rem.any (by omega) (fun r hr he => ?_)) | (refine Br.mk (fun h => ?_) (fun h => ?_)))
     ·have jh := jh (nmsM_out hjl hno hd)
      repeat' ((conv => whnf); first
      | refine Yz ?_
       | (refine Pick.rec00 Clm.cells_length j rfl hjl rfl ?_)
       | (refine Pick.rec00 Clm.cells_length k rfl hlt rfl ?_)
       | (refine Cmp.ff hd ?_)
       | (refine LoopW.to jh rfl rfl))
    ·obtain rfl : j = k := by omega
     have he : chkCm (nmsM (l.take j)) l[j] = 0 := by
      unfold chkCm
      rw [hz, if_neg hno]
      rfl
     rw [he, if_pos rfl] at h0
     have ih := ih h0
     repeat' ((conv => whnf); first
     | refine Yz ?_
      | (refine LoopW.to ih rfl rfl))
   ·have he : chkCm (nmsM (l.take k)) l[k] = chkCl l[k] := by
     unfold chkCm
     simp [firstI, hz]
    rw [he, if_neg hz] at h0
    rw [← h0]
    generalize chkCl l[k] = e at *
    repeat' ((conv => whnf); first
    | refine Yz ?_
     | (refine PickW.rec Clm.cells_length k rfl hlt ?_)
     | (refine CallI.of hn ?_)
     | (refine LoopW.step g.lim ?_)
     | (refine Cmp.tt hz ?_)
     | (refine Cmp.ff hz ?_)
     | (refine Ret.mk rfl)
     | (refine Cmp.mk (fun h => ?_) (fun h => ?_)) | (refine Rem.any (by omega) (fun r hr he => ?_)) | (refine Br.mk (fun h => ?_) (fun h => ?_)))
  ·rw [List.drop_eq_nil_of_le (by omega), chkCmG] at h0
   rw [← h0]
   repeat' ((conv => whnf); first
   | refine Yz ?_
    | (refine Ret.mk rfl))
set_option maxHeartbeats 4000000 in
theorem r_ShortClaims (l : List Clm) (n : Int) (hl : l.length ≤ 9223372036854775807) : Fc E n_ref05_ShortClaims [LM l, I n] (B (decide (((l.length : Int) ≤ n ∨ l.length = 65) ∧ ∀ c ∈ l, briefB c.rq = true))) := by
 refine g.fn rfl rfl ?_
 by_cases hs : (l.length : Int) ≤ n ∨ l.length = 65
 ·generalize hR : decide (((l.length : Int) ≤ n ∨ l.length = 65) ∧ ∀ c ∈ l, briefB c.rq = true) = R
  have hR : decide (∀ c ∈ l, briefB c.rq = true) = R := by
   rw [← hR]
   simp [hs]
  repeat' ((conv => whnf); first
  | refine Yz ?_
   | (refine Cmp.mk (fun h => ?_) (fun h => ?_)) | (refine Rem.any (by omega) (fun r hr he => ?_)) | (refine Br.mk (fun h => ?_) (fun h => ?_))
   | (exfalso; omega))
  all_goals
   refine LoopW.to (LoopW.upP g (fun k => [(0, LM l), (5, I k)]) (fun _ => []) (fun k => decide (∀ c ∈ l.drop k, briefB c.rq = true) = R) l.length (fun k hk h0 ih => ?_) 0 (Nat.zero_le _) hR) rfl rfl
   by_cases hlt : k < l.length
   ·rw [List.drop_eq_getElem_cons hlt] at h0
    have ih := ih hlt
    have hb := r_Brief g l[k].rq
    cases hc : briefB l[k].rq
    ·rw [hc] at hb
     rw [decide_eq_false fun h => by have := h l[k] (List.mem_cons_self ..); rw [hc] at this; cases this] at h0
     rw [← h0]
     repeat' ((conv => whnf); first
     | refine Yz ?_
      | (refine PickW.partC Clm.cells_length k rfl hlt (by decide) rfl ?_)
      | (refine CallI.of hb ?_)
      | (refine Ret.mk rfl))
    ·rw [hc] at hb
     have ih := ih (h0 ▸ decide_eq_decide.2 ⟨fun h c hm => (List.mem_cons.1 hm).elim (fun e => e ▸ hc) (h c), fun h c hm => h c (List.mem_cons_of_mem _ hm)⟩)
     repeat' ((conv => whnf); first
     | refine Yz ?_
      | (refine PickW.partC Clm.cells_length k rfl hlt (by decide) rfl ?_)
      | (refine CallI.of hb ?_)
      | (refine LoopW.to ih rfl rfl))
   ·rw [List.drop_eq_nil_of_le (by omega)] at h0
    rw [← h0]
    repeat' ((conv => whnf); first
    | refine Yz ?_
     | (refine Ret.mk (by simp)))
 ·rw [decide_eq_false (fun h => hs h.1)]
  repeat' ((conv => whnf); first
  | refine Yz ?_
   | (refine Cmp.mk (fun h => ?_) (fun h => ?_)) | (refine Rem.any (by omega) (fun r hr he => ?_)) | (refine Br.mk (fun h => ?_) (fun h => ?_))
   | (refine Ret.mk rfl)
   | (exfalso; omega))
end
end Go.Proofs.YtlnlcdnpgjhaaacGreatDoor.Co
/-
 Permutations: what the program's Draw and the reference's give; equal lists.
-/
namespace Go.Proofs.YtlnlcdnpgjhaaacGreatDoor.Co
open Go Go.Evl
theorem Pick.nat {l : List Int} {k : Nat} {K : D → Prop} (h : k < l.length) (hk : K (DI (l.getD k 0))) : Pick (l.map DI) ((k : Int).toNat * 1) K := by
 refine ⟨⟨_, ?_, hk⟩⟩
 simp [List.getD, h]
def nextX (x : Int) : Int := 48271 * x % 2147483647
def swapL (l : List Int) (i j : Nat) : List Int := (l.set i (l.getD j 0)).set j (l.getD i 0)
def drawL : Nat → Int → List Int → List Int
 | 0, _, l => l
 | i + 1, x, l => drawL i (nextX x) (swapL l (i + 1) (nextX x % (i + 2)).toNat)
def idL (n : Nat) : List Int := (List.range n).map fun (i : Nat) => (i : Int)
def drawAll (key : Int) (n : Nat) : List Int := drawL (n - 1) key (idL n)
theorem idL_succ (n : Nat) : idL (n + 1) = idL n ++ [(n : Int)] := by simp [idL, List.range_succ]
theorem idL_length (n : Nat) : (idL n).length = n := by simp [idL]
theorem swapL_length (l : List Int) (i j : Nat) : (swapL l i j).length = l.length := by simp [swapL]
theorem drawL_length : ∀ (i : Nat) (x : Int) (l : List Int), (drawL i x l).length = l.length
 | 0, _, _ => rfl
 | i + 1, x, l => by simp only [drawL]; rw [drawL_length i, swapL_length]
theorem patch_set (l : List Int) (i : Nat) (v : Int) (h : i < l.length) : patch (l.map DI) i [DI v] = (l.set i v).map DI := by
 unfold patch
 rw [List.set_eq_take_append_cons_drop, if_pos h]
 simp
theorem patch_len (l : List Int) (o : Nat) (v : Int) (h : o < l.length) : (patch (l.map DI) o [DI v]).length = l.length := by
 rw [patch_set l o v h]; simp
theorem patch_two (l : List Int) (x : Int) (i k : Nat) (h1 : i + 1 < k) (h2 : l.length = k) :
  (swapL l (i + 1) (nextX x % ((i : Int) + 2)).toNat).map DI = patch (patch (l.map DI) ((0 + ((i + 1 : Nat) : Int).toNat) * 1) [DI (l.getD (48271 * x % 2147483647 % (((i + 1 : Nat) : Int) + 1)).toNat 0)])
   ((0 + (48271 * x % 2147483647 % (((i + 1 : Nat) : Int) + 1)).toNat) * 1) [DI (l.getD ((i + 1 : Nat) : Int).toNat 0)] := by
 have e0 : ((i + 1 : Nat) : Int) + 1 = (i : Int) + 2 := by omega
 have hm1 := Int.emod_nonneg (nextX x) (show (i : Int) + 2 ≠ 0 by omega)
 have hm2 := Int.emod_lt_of_pos (nextX x) (show (0 : Int) < (i : Int) + 2 by omega)
 rw [e0]
 show _ = patch (patch (l.map DI) ((0 + ((i + 1 : Nat) : Int).toNat) * 1) [DI (l.getD (nextX x % ((i : Int) + 2)).toNat 0)]) ((0 + (nextX x % ((i : Int) + 2)).toNat) * 1) [DI (l.getD ((i + 1 : Nat) : Int).toNat 0)]
 generalize nextX x % ((i : Int) + 2) = m at hm1 hm2 ⊢
 have e1 : (0 + ((i + 1 : Nat) : Int).toNat) * 1 = i + 1 := by omega
 have e2 : (0 + m.toNat) * 1 = m.toNat := by omega
 have e3 : ((i + 1 : Nat) : Int).toNat = i + 1 := by omega
 rw [e1, e2, e3, patch_set _ _ _ (by omega), patch_set _ _ _ (by simp; omega)]
 rfl
theorem flat_rep (n : Nat) : (List.replicate n [DI 0]).flatten = (List.replicate n (0 : Int)).map DI := by
 induction n with
 | zero => rfl
 | succ n ih => simp [List.replicate_succ, ih]
section
variable {E : Oracle} (g : Good E)
include g
theorem s_Draw (key : Int) (n : Nat) (hk : 1 ≤ key ∧ key ≤ 2147483646) (hn : n ≤ 256) : Fc E n_calendar_Draw [I key, I n] (.tup [LI (drawAll key n), I 0]) := by
 refine g.fn rfl rfl ?_
 have k1 : firstI [rng key 1 2147483646, rng n 0 256] = 0 := by
  have h1 := (@rng_zero key 1 2147483646).2 hk
  have h2 := (@rng_zero n 0 256).2 (by omega)
  simp [firstI, h1, h2]
 repeat' ((conv => whnf); first
 | refine Yz ?_
  | (refine CallI.of (s_within g _ _ _) ?_)
  | (refine CallI.of (s_first2 g _ _) ?_))
 refine LoopW.to (LoopW.up g (fun k => [(0, I key), (1, I n), (7, .ref ⟨0, 7, 0⟩ 0 k k), (22, I n), (23, I k)]) (fun k => [(⟨0, 4, 0⟩, .row true ty_int 1 0 []), (⟨0, 7, 0⟩, .row false ty_int 1 k ((idL k).map DI))]) n (fun k hk ih => ?_) 0 (Nat.zero_le _)) rfl rfl
 by_cases hlt : k < n
 ·repeat' ((conv => whnf); first
 | refine Yz ?_
   | (refine LoopW.to (ih hlt) rfl ?_))
  simp [idL_succ]
 ·have hk' : k = n := by omega
  subst hk'
  have hl := idL_length k
  have hrow : patch ((List.replicate k [DI 0]).flatten) (0 * 1) (List.take (min k k * 1) (if 0 = 0 ∧ k = k then (idL k).map DI else win ((idL k).map DI) (0 * 1) (k * 1))) = (idL k).map DI := by
   rw [flat_rep]
   simp only [patch]
   simp [hl, List.take_of_length_le]
  repeat' ((conv => whnf); first
  | refine Yz ?_
   | (refine Need.mk (by simp [hl]) ?_))
  by_cases h0 : k = 0
  ·subst h0
   refine LoopW.step g.lim ?_
   repeat' ((conv => whnf); first
   | refine Yz ?_
    | (refine Ret.mk rfl))
  ·refine LoopW.to (LoopW.by g (fun (s : Nat × Int × List Int) => s.1 < k ∧ s.2.2.length = k ∧ 0 ≤ s.2.1 ∧ s.2.1 ≤ 2147483646 ∧ drawL s.1 s.2.1 s.2.2 = drawAll key k)
    (fun s => [(9, .ref ⟨0, 32, 0⟩ 0 k k), (10, I s.2.1), (11, I s.1)])
    (fun s => [(⟨0, 4, 0⟩, .row true ty_int 1 0 []), (⟨0, 7, 0⟩, .row false ty_int 1 k ((idL k).map DI)), (⟨0, 32, 0⟩, .row true ty_int 1 k (s.2.2.map DI))])
    (fun s => s.1) (fun s hs ih => ?_) (k - 1, key, idL k) ⟨by show k - 1 < k; omega, hl, by show 0 ≤ key; omega, by show key ≤ _; omega, rfl⟩) ?_ ?_
   ·obtain ⟨i, x, l⟩ := s
    obtain ⟨h1, h2, h3, h4, h5⟩ := hs
    simp only at h1 h2 h3 h4 h5 ih ⊢
    cases i with
    | zero =>
     simp only [drawL] at h5
     subst h5
     repeat' ((conv => whnf); first
     | refine Yz ?_
      | (refine Ret.mk ?_))
     simp [h2]
    | succ i =>
     have hx : 0 ≤ nextX x ∧ nextX x ≤ 2147483646 := by unfold nextX; omega
     have hm1 := Int.emod_nonneg (48271 * x % 2147483647) (show ((i + 1 : Nat) : Int) + 1 ≠ 0 by omega)
     have hm2 := Int.emod_lt_of_pos (48271 * x % 2147483647) (show (0 : Int) < ((i + 1 : Nat) : Int) + 1 by omega)
     repeat' ((conv => whnf); first
     | refine Yz ?_
      | (refine Need.mk (by simp; omega) ?_)
      | (refine Need.mk ⟨rfl, by rw [patch_len _ _ _ (by omega)]; omega, rfl⟩ ?_)
      | (refine Pick.int0 (by omega) ?_)
      | (refine LoopW.to (ih (i, nextX x, swapL l (i + 1) (nextX x % (i + 2)).toNat) ⟨by show i < k; omega, by rw [swapL_length]; exact h2, hx.1, hx.2, h5⟩ (by show i < i + 1; omega)) ?_ ?_))
     ·simp [nextX]
     ·exact congrArg (fun z => [((⟨0, 4, 0⟩ : Evl.Id), Ob.row true ty_int 1 0 []), (⟨0, 7, 0⟩, Ob.row false ty_int 1 k ((idL k).map DI)), (⟨0, 32, 0⟩, Ob.row true ty_int 1 k z)]) (patch_two l x i k h1 h2)
   ·simp; omega
   ·exact congrArg (fun z => [((⟨0, 4, 0⟩ : Evl.Id), Ob.row true ty_int 1 0 []), (⟨0, 7, 0⟩, Ob.row false ty_int 1 k ((idL k).map DI)), (⟨0, 32, 0⟩, Ob.row true ty_int 1 k z)]) hrow.symm
end
end Go.Proofs.YtlnlcdnpgjhaaacGreatDoor.Co
/-
 Permutations as lists: each of the numbers below 'n' once.
-/
namespace Go.Proofs.YtlnlcdnpgjhaaacGreatDoor.Co
open Go Go.Evl
set_option maxRecDepth 100000
theorem getD_set (l : List Int) (i k : Nat) (v : Int) (h : i < l.length) : (l.set i v).getD k 0 = if i = k then v else l.getD k 0 := by
 simp only [List.getD, List.getElem?_set]
 split
 ·subst_vars; simp
 ·rfl
theorem getD_swapL (l : List Int) (i j k : Nat) (hi : i < l.length) (hj : j < l.length) : (swapL l i j).getD k 0 = if j = k then l.getD i 0 else if i = k then l.getD j 0 else l.getD k 0 := by
 unfold swapL
 rw [getD_set _ _ _ _ (by simpa using hj), getD_set _ _ _ _ hi]
structure Ord (n : Nat) (l : List Int) : Prop where
 len : l.length = n
 rng : ∀ k, k < n → 0 ≤ l.getD k 0 ∧ l.getD k 0 < n
 inj : ∀ i j, i < n → j < n → l.getD i 0 = l.getD j 0 → i = j
theorem Ord.swap {n : Nat} {l : List Int} (h : Ord n l) {i j : Nat} (hi : i < n) (hj : j < n) : Ord n (swapL l i j) := by
 have hl := h.len
 have e : ∀ k, (swapL l i j).getD k 0 = l.getD (if j = k then i else if i = k then j else k) 0 := fun k => by
  rw [getD_swapL l i j k (by omega) (by omega)]
  split
  ·rfl
  ·split <;> rfl
 refine ⟨by rw [swapL_length]; exact hl, fun k hk => ?_, fun a b ha hb hab => ?_⟩
 ·rw [e]
  refine h.rng _ ?_
  split
  ·exact hi
  ·split
   ·exact hj
   ·exact hk
 ·rw [e, e] at hab
  have := h.inj _ _ (by split; exact hi; split; exact hj; exact ha) (by split; exact hi; split; exact hj; exact hb) hab
  split at this <;> split at this <;> (try split at this) <;> (try split at this) <;> omega
theorem idx_lt (x : Int) (i : Nat) : (nextX x % ((i : Int) + 2)).toNat < i + 2 := by
 have h1 := Int.emod_nonneg (nextX x) (show (i : Int) + 2 ≠ 0 by omega)
 have h2 := Int.emod_lt_of_pos (nextX x) (show (0 : Int) < (i : Int) + 2 by omega)
 omega
theorem Ord.draw {n : Nat} : ∀ (i : Nat) (x : Int) (l : List Int), i < n → Ord n l → Ord n (drawL i x l)
 | 0, _, _, _, h => h
 | i + 1, x, l, hi, h => by
  have := idx_lt x i
  exact Ord.draw i _ _ (by omega) (h.swap hi (by omega))
theorem Ord.id (n : Nat) : Ord n (idL n) := by
 have e : ∀ k, k < n → (idL n).getD k 0 = k := fun k hk => by simp [idL, List.getD, hk]
 refine ⟨idL_length n, fun k hk => ?_, fun i j hi hj h => ?_⟩
 ·rw [e k hk]; omega
 ·rw [e i hi, e j hj] at h; omega
section
variable {E : Oracle} (g : Good E)
include g
theorem r_IsOrder (n : Nat) (l : List Int) (h : Ord n l) (hn : n ≤ 256) : Fc E n_ref01_IsOrder [LI l] (B true) := by
 have hl := h.len
 refine g.fn rfl rfl ?_
 repeat' ((conv => whnf); first
 | refine Yz ?_)
 refine LoopW.up g (fun k => [(0, LI l), (3, I k)]) (fun _ => []) n (fun k hk ih => ?_) 0 (Nat.zero_le _)
 by_cases hlt : k < n
 ·have hr := h.rng k hlt
  repeat' ((conv => whnf); first
  | refine Yz ?_
   | (refine Pick.nat (by omega) ?_))
  refine LoopW.up g (fun j => [(0, LI l), (3, I k), (4, I j)]) (fun _ => []) k (fun j hj ih' => ?_) 0 (Nat.zero_le _)
  by_cases hlt' : j < k
  ·have hne : ¬ l.getD j 0 = l.getD k 0 := fun e => by have := h.inj j k (by omega) hlt e; omega
   repeat' ((conv => whnf); first
   | refine Yz ?_
    | (refine Pick.nat (by omega) ?_)
    | (refine Cmp.ff hne ?_)
    | (refine LoopW.to (ih' hlt') ?_ rfl))
   simp
  ·repeat' ((conv => whnf); first
  | refine Yz ?_
    | (refine LoopW.to (ih hlt) ?_ rfl))
   simp
 ·repeat' ((conv => whnf); first
 | refine Yz ?_
   | (refine Ret.mk rfl))
end
end Go.Proofs.YtlnlcdnpgjhaaacGreatDoor.Co
/-
 Insertion: a list in order, and the place of each of its elements.
-/
namespace Go.Proofs.YtlnlcdnpgjhaaacGreatDoor.Co
open Go Go.Evl
structure Tot (n : Nat) (lt : Int → Int → Bool) : Prop where
 irr : ∀ a : Int, lt a a = false
 tr : ∀ a b c : Int, a ∈ idL n → b ∈ idL n → c ∈ idL n → lt a b = true → lt b c = true → lt a c = true
 tot : ∀ a b : Int, a ∈ idL n → b ∈ idL n → a ≠ b → lt a b = false → lt b a = true
def placeL (n : Nat) (lt : Int → Int → Bool) (x : Int) : Nat := (idL n).countP fun y => lt y x
structure Srt (n : Nat) (lt : Int → Int → Bool) (l : List Int) : Prop where
 pm : l.Perm (idL n)
 up : l.Pairwise fun a b => lt a b = true
theorem idL_mem {n : Nat} {x : Int} : x ∈ idL n ↔ 0 ≤ x ∧ x < n := by
 unfold idL
 rw [List.mem_map]
 constructor
 ·rintro ⟨i, h, rfl⟩
  have := List.mem_range.1 h
  omega
 ·intro h
  exact ⟨x.toNat, List.mem_range.2 (by omega), by omega⟩
theorem idL_get {n k : Nat} (h : k < n) : (idL n)[k]? = some (k : Int) := by
 simp [idL, h]
theorem Srt.len {n : Nat} {lt : Int → Int → Bool} {l : List Int} (h : Srt n lt l) : l.length = n := by
 rw [h.pm.length_eq, idL_length]
theorem Srt.mem {n : Nat} {lt : Int → Int → Bool} {l : List Int} (h : Srt n lt l) {k : Nat} (hk : k < l.length) : l[k] ∈ idL n := h.pm.mem_iff.1 (List.getElem_mem hk)
theorem Srt.asym {n : Nat} {lt : Int → Int → Bool} (t : Tot n lt) {a b : Int} (ha : a ∈ idL n) (hb : b ∈ idL n) (h : lt a b = true) : lt b a = false := by
 cases hc : lt b a with
 | false => rfl
 | true =>
  have := t.tr a b a ha hb ha h hc
  rw [t.irr a] at this
  cases this
theorem Srt.place {n : Nat} {lt : Int → Int → Bool} {l : List Int} (t : Tot n lt) (h : Srt n lt l) {k : Nat} (hk : k < l.length) : placeL n lt l[k] = k := by
 unfold placeL
 rw [← h.pm.countP_eq]
 have e : l = l.take k ++ l[k] :: l.drop (k + 1) := by
  rw [← List.drop_eq_getElem_cons hk, List.take_append_drop]
 have hm := fun {j : Nat} (hj : j < l.length) => h.mem hj
 have hp := List.pairwise_iff_getElem.1 h.up
 generalize hx : l[k] = x at *
 have h1 : (l.take k).countP (fun y => lt y x) = k := by
  have : (l.take k).countP (fun y => lt y x) = (l.take k).length := by
   rw [List.countP_eq_length]
   intro a ha
   rw [List.mem_take_iff_getElem] at ha
   obtain ⟨i, hi, rfl⟩ := ha
   rw [← hx]
   exact hp i k (by omega) hk (by omega)
  rw [this, List.length_take]
  omega
 have h2 : (l.drop (k + 1)).countP (fun y => lt y x) = 0 := by
  rw [List.countP_eq_zero]
  intro a ha
  rw [List.mem_drop_iff_getElem] at ha
  obtain ⟨i, hi, rfl⟩ := ha
  have := hp k (k + 1 + i) hk (by omega) (by omega)
  rw [hx] at this
  rw [Srt.asym t (hx ▸ hm hk) (hm (by omega)) this]
  simp
 rw [e, List.countP_append, List.countP_cons, h1, h2, t.irr]
 simp
theorem Srt.uniq {n : Nat} {lt : Int → Int → Bool} {l : List Int} (t : Tot n lt) (h : Srt n lt l) {x : Int} (hx : x ∈ idL n) : l[placeL n lt x]? = some x := by
 obtain ⟨k, hk, rfl⟩ := List.getElem_of_mem (h.pm.mem_iff.2 hx)
 rw [h.place t hk]
 exact List.getElem?_eq_getElem hk
structure Ins (lt : Int → Int → Bool) (s : List Int) (x : Int) (p q : List Int) : Prop where
 eq : p ++ q = s
 lo : ∀ y ∈ q, lt x y = true
theorem Ins.start {lt : Int → Int → Bool} (s : List Int) (x : Int) : Ins lt s x s [] := ⟨by simp, by simp⟩
theorem Ins.step {lt : Int → Int → Bool} {s p q : List Int} {x y : Int} (h : Ins lt s x (p ++ [y]) q) (hy : lt x y = true) : Ins lt s x p (y :: q) := by
 refine ⟨by rw [← h.eq]; simp, fun z hz => ?_⟩
 rcases List.mem_cons.1 hz with rfl | hz
 ·exact hy
 ·exact h.lo z hz
theorem Ins.done {n : Nat} {lt : Int → Int → Bool} {s p q : List Int} {x : Int} (t : Tot n lt) (hs : s.Pairwise fun a b => lt a b = true) (hm : ∀ y ∈ s, y ∈ idL n) (hx : x ∈ idL n) (hn : x ∉ s) (h : Ins lt s x p q)
  (he : p = [] ∨ ∃ p' y, p = p' ++ [y] ∧ lt x y = false) : (p ++ x :: q).Pairwise fun a b => lt a b = true := by
 obtain ⟨rfl, lo⟩ := h
 have h0 := List.pairwise_append.1 hs
 refine List.pairwise_append.2 ⟨h0.1, List.pairwise_cons.2 ⟨lo, h0.2.1⟩, fun a ha b hb => ?_⟩
 rcases List.mem_cons.1 hb with rfl | hb
 ·rcases he with rfl | ⟨p', y, rfl, hy⟩
  ·cases ha
  ·have hym : y ∈ idL n := hm y (by simp)
   have hyx : lt y b = true := t.tot b y hx hym (fun e => hn (by subst e; simp)) hy
   rcases List.mem_append.1 ha with ha | ha
   ·have hay : lt a y = true := (List.pairwise_append.1 h0.1).2.2 a ha y (by simp)
    exact t.tr a y b (hm a (by simp [ha])) hym hx hay hyx
   ·rw [List.mem_singleton.1 ha]
    exact hyx
 ·exact h0.2.2 a ha b hb
end Go.Proofs.YtlnlcdnpgjhaaacGreatDoor.Co
/-
 Priority: slices.SortFunc on a few indices, with a comparing closure.
-/
namespace Go.Proofs.YtlnlcdnpgjhaaacGreatDoor.Co
open Go Go.Evl
set_option maxRecDepth 100000
theorem strLess_irr : ∀ s : List UInt8, strLess s s = false
 | [] => rfl
 | a :: r => by simp [strLess, strLess_irr r]
theorem strLess_cons {a b : UInt8} {x y : List UInt8} : strLess (a :: x) (b :: y) = true ↔ a < b ∨ (a = b ∧ strLess x y = true) := by
 simp [strLess]
theorem strLess_trans : ∀ {a b c : List UInt8}, strLess a b = true → strLess b c = true → strLess a c = true
 | _, _, [], _, h => by simp [strLess] at h
 | _, [], _ :: _, h, _ => by simp [strLess] at h
 | [], _ :: _, _ :: _, _, _ => rfl
 | x :: a, y :: b, z :: c, h1, h2 => by
  rw [strLess_cons] at h1 h2 ⊢
  rcases h1 with h1 | ⟨rfl, h1⟩
  ·rcases h2 with h2 | ⟨rfl, _⟩
   ·exact .inl (UInt8.lt_trans h1 h2)
   ·exact .inl h1
  ·rcases h2 with h2 | ⟨rfl, h2⟩
   ·exact .inl h2
   ·exact .inr ⟨rfl, strLess_trans h1 h2⟩
theorem strLess_tot : ∀ {a b : List UInt8}, a ≠ b → strLess a b = false → strLess b a = true
 | [], [], h, _ => absurd rfl h
 | [], _ :: _, _, h => by simp [strLess] at h
 | _ :: _, [], _, _ => rfl
 | x :: a, y :: b, h, h2 => by
  rw [strLess_cons]
  have hn : ¬ (x < y ∨ (x = y ∧ strLess a b = true)) := fun hc => by rw [strLess_cons.2 hc] at h2; cases h2
  by_cases e : x = y
  ·subst e
   refine .inr ⟨rfl, strLess_tot (fun hc => h (by rw [hc])) ?_⟩
   cases hc : strLess a b with
   | false => rfl
   | true => exact absurd (.inr ⟨rfl, hc⟩) hn
  ·left
   have h3 : ¬ x < y := fun hc => hn (.inl hc)
   rcases UInt8.lt_or_lt_of_ne e with h4 | h4
   ·exact absurd h4 h3
   ·exact h4
def cmpS (a b : List UInt8) : Int := if strLess a b = true then -1 else if a = b then 0 else 1
theorem cmpS_lt (a b : List UInt8) : cmpS a b < 0 ↔ strLess a b = true := by
 unfold cmpS
 split
 ·simp [*]
 ·split <;> simp [*, strLess_irr]
def cmpI (a b : Int) : Int := if a < b then -1 else if b < a then 1 else 0
theorem swap_row (p r : List Int) (x y : Int) {i j : Nat} (hi : i = p.length + 1) (hj : j = p.length) : patch (patch ((p ++ y :: x :: r).map DI) i [DI y]) j [DI x] = (p ++ x :: y :: r).map DI := by
 subst hi hj
 rw [patch_set _ _ _ (by simp), patch_set _ _ _ (by simp)]
 congr 1
 rw [List.set_append_right _ _ (by simp), List.set_append_right _ _ (by simp)]
 simp
theorem Wr.u64 {x : Int} {K : Int → Prop} (k : K x) (h : 0 ≤ x ∧ x ≤ 1000000 := by omega) : Wr .u64 x K := ⟨by
 have : IntKind.u64.wrap x = x := by
  simp only [IntKind.wrap, IntKind.signed, IntKind.bits]
  simp
  omega
 rw [this]
 exact k⟩
theorem get_at {l p r : List Int} {x : Int} {k : Nat} (h : l = p ++ x :: r) (hk : k = p.length) (hl : k < l.length) : l[k] = x := by
 subst h hk
 simp
structure InO where
 i : Nat
 (s r : List Int)
structure InI where
 j : Nat
 (p q : List Int)
section
variable {E : Oracle} (g : Good E)
include g
theorem s_isNaNS (a : List UInt8) : Fc E n_cmp_isNaN_string [S a] (B false) := by
 refine g.fn rfl rfl ?_
 repeat' ((conv => whnf); first
 | refine Yz ?_
  | (refine Cmp.tt rfl ?_)
  | (refine Ret.mk rfl))
theorem s_isNaNI (a : Int) : Fc E n_cmp_isNaN_int [I a] (B false) := by
 refine g.fn rfl rfl ?_
 repeat' ((conv => whnf); first
 | refine Yz ?_
  | (refine Cmp.tt rfl ?_)
  | (refine Ret.mk rfl))
theorem s_CmpS (a b : List UInt8) : Fc E n_cmp_Compare_string [S a, S b] (I (cmpS a b)) := by
 have h1 := s_isNaNS g a
 have h2 := s_isNaNS g b
 refine g.fn rfl rfl ?_
 unfold cmpS
 by_cases h : a = b
 ·subst h
  have hu := strLess_irr a
  have he : (a == a) = true := beq_self_eq_true a
  rw [hu, if_neg (by decide), if_pos rfl]
  repeat' ((conv => whnf); first
  | refine Yz ?_
   | (apply CallI.of; assumption)
   | (rw [hu])
   | (rw [he])
   | (refine Ret.mk rfl))
 ·have he : (a == b) = false := beq_eq_false_iff_ne.2 h
  rw [if_neg h]
  cases hu : strLess a b
  ·rw [if_neg (by decide)]
   repeat' ((conv => whnf); first
   | refine Yz ?_
    | (apply CallI.of; assumption)
    | (rw [hu])
    | (rw [he])
    | (refine Ret.mk rfl))
  ·rw [if_pos rfl]
   repeat' ((conv => whnf); first
   | refine Yz ?_
    | (apply CallI.of; assumption)
    | (rw [hu])
    | (refine Ret.mk rfl))
theorem s_CmpI (a b : Int) : Fc E n_cmp_Compare_int [I a, I b] (I (cmpI a b)) := by
 have h1 := s_isNaNI g a
 have h2 := s_isNaNI g b
 refine g.fn rfl rfl ?_
 unfold cmpI
 rcases Int.lt_trichotomy a b with h | h | h
 ·rw [if_pos h]
  repeat' ((conv => whnf); first
  | refine Yz ?_
   | (apply CallI.of; assumption)
   | (refine Ret.mk rfl))
 ·rw [if_neg (by omega), if_neg (by omega)]
  repeat' ((conv => whnf); first
  | refine Yz ?_
   | (apply CallI.of; assumption)
   | (refine Ret.mk rfl))
 ·rw [if_neg (by omega), if_pos h]
  repeat' ((conv => whnf); first
  | refine Yz ?_
   | (apply CallI.of; assumption)
   | (refine Ret.mk rfl))
theorem s_Len : ∀ n : Nat, n ≤ 12 → ∃ r, Fc E n_math_bits_Len [.d (.int .u64 n)] (I r)
 | 0, _ => ⟨0, g.compR 100 (by decide +kernel)⟩
 | 1, _ => ⟨1, g.compR 100 (by decide +kernel)⟩
 | 2, _ => ⟨2, g.compR 100 (by decide +kernel)⟩
 | 3, _ => ⟨2, g.compR 100 (by decide +kernel)⟩
 | 4, _ => ⟨3, g.compR 100 (by decide +kernel)⟩
 | 5, _ => ⟨3, g.compR 100 (by decide +kernel)⟩
 | 6, _ => ⟨3, g.compR 100 (by decide +kernel)⟩
 | 7, _ => ⟨3, g.compR 100 (by decide +kernel)⟩
 | 8, _ => ⟨4, g.compR 100 (by decide +kernel)⟩
 | 9, _ => ⟨4, g.compR 100 (by decide +kernel)⟩
 | 10, _ => ⟨4, g.compR 100 (by decide +kernel)⟩
 | 11, _ => ⟨4, g.compR 100 (by decide +kernel)⟩
 | 12, _ => ⟨4, g.compR 100 (by decide +kernel)⟩
 | n + 13, h => absurd h (by omega)
theorem in_indices (n : Nat) (hn : n ≤ 1000) : In E 0 n_priority_indices [I n] [] fun v m' => v = .ref ⟨0, 3, 0⟩ 0 n n ∧ m' = [(⟨0, 2, 0⟩, .row true ty_int 1 0 []), (⟨0, 3, 0⟩, .row true ty_int 1 n ((idL n).map DI))] := by
 refine In.enter (f := n_priority_indices) g.lim rfl rfl ?_
 repeat' ((conv => whnf); first
 | refine Yz ?_)
 refine LoopW.to (LoopW.up g (fun k => [(3, .ref ⟨0, 3, 0⟩ 0 k k), (5, I n), (6, I k)]) (fun k => [(⟨0, 2, 0⟩, .row true ty_int 1 0 []), (⟨0, 3, 0⟩, .row true ty_int 1 k ((idL k).map DI))]) n (fun k hk ih => ?_) 0 (Nat.zero_le _)) rfl rfl
 have hl := idL_length k
 by_cases hlt : k < n
 ·have ih := ih hlt
  rw [idL_succ] at ih
  simp only [List.map_append, List.map_cons, List.map_nil] at ih
  repeat' ((conv => whnf); first
  | refine Yz ?_
   | (refine Need.mk (by simp only [List.length_cons, List.length_nil]; omega) ?_)
   | (refine LoopW.to ih rfl rfl))
 ·obtain rfl : k = n := by omega
  repeat' ((conv => whnf); first
  | refine Yz ?_
   | (exact ⟨rfl, rfl⟩))
theorem s_indices (n : Nat) (hn : n ≤ 1000) : Fc E n_priority_indices [I n] (LI (idL n)) := by
 obtain ⟨v, m', h, rfl, rfl⟩ := (in_indices g n hn).got
 refine ⟨_, _, h, ?_⟩
 have hl := idL_length n
 show (Go.Evl.freeze true _ (V.ref ⟨0, 3, 0⟩ 0 n n)).map V.d = _
 simp [Go.Evl.freeze, Go.Evl.look, hl]
set_option maxHeartbeats 16000000 in
theorem in_insL {n : Nat} {lt : Int → Int → Bool} (t : Tot n lt) (hn : n ≤ 12) (f : Nat) (a0 : D) (hcmp : ∀ (x y : Int) (l : List Int) {K : V → Mem → Prop}, x ∈ idL n → y ∈ idL n → (∀ c : Int, (c < 0 ↔ lt x y = true) → K (I c) [(⟨0, 3, 0⟩, .cells ty_Lpriority_Claim [.d a0]), (⟨0, 4, 0⟩, .row true ty_int 1 0 []), (⟨0, 13, 0⟩, .row true ty_int 1 n (l.map DI))]) → In E 4 f [I x, I y, .ptr ⟨0, 3, 0⟩ 0 0] [(⟨0, 3, 0⟩, .cells ty_Lpriority_Claim [.d a0]), (⟨0, 4, 0⟩, .row true ty_int 1 0 []), (⟨0, 13, 0⟩, .row true ty_int 1 n (l.map DI))] K) {K : V → Mem → Prop} (hK : ∀ l, Srt n lt l → K (.tup []) [(⟨0, 3, 0⟩, .cells ty_Lpriority_Claim [.d a0]), (⟨0, 4, 0⟩, .row true ty_int 1 0 []), (⟨0, 13, 0⟩, .row true ty_int 1 n (l.map DI))]) :
  In E 3 n_slices_insertionSortCmpFunc_int [.ref ⟨0, 13, 0⟩ 0 n n, I 0, I n, .fn f [] [.ptr ⟨0, 3, 0⟩ 0 0]] [(⟨0, 3, 0⟩, .cells ty_Lpriority_Claim [.d a0]), (⟨0, 4, 0⟩, .row true ty_int 1 0 []), (⟨0, 13, 0⟩, .row true ty_int 1 n ((idL n).map DI))] K := by
 refine In.enter (f := n_slices_insertionSortCmpFunc_int) g.lim rfl rfl ?_
 rcases Nat.eq_zero_or_pos n with h0 | h0
 ·subst h0
  have hs := hK [] ⟨List.Perm.nil, .nil⟩
  repeat' ((conv => whnf); first
  | refine Yz ?_
   | (refine LoopW.step g.lim ?_)
   | (exact hs))
 ·obtain ⟨x0, r0, hi⟩ : ∃ x r, idL n = x :: r := by
   cases h : idL n with
   | nil => have := idL_length n; rw [h] at this; simp at this; omega
   | cons x r => exact ⟨x, r, rfl⟩
  have hpm : (x0 :: r0).Perm (idL n) := by rw [hi]
  rw [hi]
  repeat' ((conv => whnf); first
  | refine Yz ?_)
  refine LoopW.to (LoopW.by g (fun s : InO => s.s.length = s.i ∧ s.s.Pairwise (fun a b => lt a b = true) ∧ (s.s ++ s.r).Perm (idL n))
   (fun s => [(0, .ref ⟨0, 13, 0⟩ 0 n n), (1, I 0), (2, I n), (3, .fn f [] [.ptr ⟨0, 3, 0⟩ 0 0]), (8, I s.i)])
   (fun s => [(⟨0, 3, 0⟩, .cells ty_Lpriority_Claim [.d a0]), (⟨0, 4, 0⟩, .row true ty_int 1 0 []), (⟨0, 13, 0⟩, .row true ty_int 1 n ((s.s ++ s.r).map DI))])
   (fun s => n - s.i) (fun s hs ih => ?_) ⟨1, [x0], r0⟩ ⟨rfl, List.pairwise_singleton .., hpm⟩) rfl rfl
  obtain ⟨i, s, r⟩ := s
  obtain ⟨h1, h2, h3⟩ := hs
  dsimp only at h1 h2 h3 ih ⊢
  have hlen := h3.length_eq
  rw [idL_length, List.length_append] at hlen
  by_cases hlt : i < n
  ·cases r with
   | nil => simp at hlen; omega
   | cons x r =>
    have hx : x ∈ idL n := h3.mem_iff.1 (by simp)
    have hsm : ∀ y ∈ s, y ∈ idL n := fun y hy => h3.mem_iff.1 (by simp [hy])
    have hnd : (s ++ x :: r).Nodup := by
     rw [h3.nodup_iff]
     refine List.pairwise_iff_getElem.2 fun a b ha hb hab => ?_
     rw [idL_length] at ha hb
     have e1 := List.getElem?_eq_getElem (l := idL n) (i := a) (by rw [idL_length]; exact ha)
     have e2 := List.getElem?_eq_getElem (l := idL n) (i := b) (by rw [idL_length]; exact hb)
     rw [idL_get ha] at e1
     rw [idL_get hb] at e2
     rw [← Option.some.inj e1, ← Option.some.inj e2]
     omega
    have hxs : x ∉ s := fun hc => (List.nodup_append.1 hnd).2.2 x hc x (by simp) rfl
    rw [List.length_cons] at hlen
    repeat' ((conv => whnf); first
    | refine Yz ?_)
    refine LoopW.to (LoopW.by g (fun u : InI => u.p.length = u.j ∧ Ins lt s x u.p u.q)
     (fun u => [(0, .ref ⟨0, 13, 0⟩ 0 n n), (1, I 0), (2, I n), (3, .fn f [] [.ptr ⟨0, 3, 0⟩ 0 0]), (8, I i), (9, I u.j)])
     (fun u => [(⟨0, 3, 0⟩, .cells ty_Lpriority_Claim [.d a0]), (⟨0, 4, 0⟩, .row true ty_int 1 0 []), (⟨0, 13, 0⟩, .row true ty_int 1 n ((u.p ++ x :: (u.q ++ r)).map DI))])
     (fun u => u.j) (fun u hu jh => ?_) ⟨i, s, []⟩ ⟨h1, Ins.start s x⟩) rfl rfl
    obtain ⟨j, p, q⟩ := u
    obtain ⟨k1, k2⟩ := hu
    dsimp only at k1 k2 jh ⊢
    have hpq := k2.eq
    have hpl : p.length + q.length = s.length := by rw [← hpq, List.length_append]
    have out : (p = [] ∨ ∃ p' y, p = p' ++ [y] ∧ lt x y = false) → (p ++ x :: q).Pairwise (fun a b => lt a b = true) := fun he => k2.done t h2 hsm hx hxs he
    have hperm : (p ++ x :: q ++ r).Perm (idL n) := by
     refine List.Perm.trans ?_ h3
     rw [← hpq]
     simp only [List.append_assoc, List.cons_append]
     exact List.Perm.append_left p List.perm_middle.symm
    have ih := ih ⟨i + 1, p ++ x :: q, r⟩
    dsimp only at ih
    rcases List.eq_nil_or_concat p with rfl | ⟨p', y, rfl⟩
    ·have ih := ih ⟨by simp at hpl ⊢; omega, out (.inl rfl), hperm⟩ (by omega)
     have hj0 : j = 0 := k1.symm
     subst hj0
     repeat' ((conv => whnf); first
     | refine Yz ?_
      | (refine LoopW.to ih rfl rfl))
    ·rw [List.concat_eq_append] at *
     obtain ⟨j, rfl⟩ : ∃ m, j = m + 1 := ⟨j - 1, by simp at k1; omega⟩
     have k3 : p'.length = j := by simpa using k1
     have hy : y ∈ idL n := hsm y (by rw [← hpq]; simp)
     have jh := jh ⟨j, p', y :: q⟩ 
     dsimp only at jh
     obtain ⟨L, hL⟩ : ∃ L, L = (p' ++ [y]) ++ x :: (q ++ r) := ⟨_, rfl⟩
     have hll : L.length = n := by
      rw [hL]
      simp only [List.length_append, List.length_cons, List.length_nil] at hpl hlen ⊢
      omega
     have g1 := get_at (l := L) (p := p' ++ [y]) (x := x) (r := q ++ r) (k := j + 1) hL (by simp [k3]) (by omega)
     have g2 := get_at (l := L) (p := p') (x := y) (r := x :: (q ++ r)) (k := j) (by rw [hL]; simp) (by simp [k3]) (by omega)
     have hsw := swap_row p' (q ++ r) x y (i := (0 + ((j + 1 : Nat) : Int).toNat) * 1) (j := (0 + (((j + 1 : Nat) : Int) - 1).toNat) * 1) (by omega) (by omega)
     rw [show p' ++ y :: x :: (q ++ r) = L by rw [hL]; simp] at hsw
     rw [← hL]
     by_cases hc0 : lt x y = true
     ·have jh := jh ⟨k3, k2.step hc0⟩ (by omega)
      have e1 : ((j + 1 : Nat) : Int) - 1 = (j : Int) := by omega
      repeat' ((conv => whnf); first
      | refine Yz ?_
       | (refine Pick.intI0 (j + 1) rfl (by omega) ?_; rw [g1])
       | (refine Pick.intI0 j (by omega) (by omega) ?_; rw [g2])
       | (refine hcmp x y L hx hy (fun c hc => ?_))
       | (refine Cmp.tt (hc.2 hc0) ?_)
       | (refine Need.mk ⟨rfl, by rw [patch_len _ _ _ (by omega)]; omega, rfl⟩ ?_)
       | (refine LoopW.to jh (by first | (rw [e1]; done) | (rw [e1]; rfl)) ?_))
      rw [hsw]
      rfl
     ·have hcf : lt x y = false := by simpa using hc0
      have ih := ih ⟨by simp only [List.length_append, List.length_cons, List.length_nil] at hpl ⊢; omega, out (.inr ⟨p', y, rfl, hcf⟩), hperm⟩ (by omega)
      rw [show (p' ++ [y]) ++ x :: q ++ r = L by rw [hL]; simp] at ih
      repeat' ((conv => whnf); first
      | refine Yz ?_
       | (refine Pick.intI0 (j + 1) rfl (by omega) ?_; rw [g1])
       | (refine Pick.intI0 j (by omega) (by omega) ?_; rw [g2])
       | (refine hcmp x y L hx hy (fun c hc => ?_))
       | (refine Cmp.ff (fun h => hc0 (hc.1 h)) ?_)
       | (refine LoopW.to ih rfl rfl))
  ·have hr : r = [] := List.length_eq_zero_iff.1 (by omega)
   subst hr
   rw [List.append_nil] at *
   have hs := hK s ⟨h3, h2⟩
   repeat' ((conv => whnf); first
   | refine Yz ?_
    | (exact hs))
theorem in_sortL {n : Nat} {lt : Int → Int → Bool} (t : Tot n lt) (hn : n ≤ 12) (f : Nat) (a0 : D) (hcmp : ∀ (x y : Int) (l : List Int) {K : V → Mem → Prop}, x ∈ idL n → y ∈ idL n → (∀ c : Int, (c < 0 ↔ lt x y = true) → K (I c) [(⟨0, 3, 0⟩, .cells ty_Lpriority_Claim [.d a0]), (⟨0, 4, 0⟩, .row true ty_int 1 0 []), (⟨0, 13, 0⟩, .row true ty_int 1 n (l.map DI))]) → In E 4 f [I x, I y, .ptr ⟨0, 3, 0⟩ 0 0] [(⟨0, 3, 0⟩, .cells ty_Lpriority_Claim [.d a0]), (⟨0, 4, 0⟩, .row true ty_int 1 0 []), (⟨0, 13, 0⟩, .row true ty_int 1 n (l.map DI))] K) {K : V → Mem → Prop} (hK : ∀ l, Srt n lt l → K (.tup []) [(⟨0, 3, 0⟩, .cells ty_Lpriority_Claim [.d a0]), (⟨0, 4, 0⟩, .row true ty_int 1 0 []), (⟨0, 13, 0⟩, .row true ty_int 1 n (l.map DI))]) :
  In E 1 n_slices_SortFunc_Lint_int [.ref ⟨0, 13, 0⟩ 0 n n, .fn f [] [.ptr ⟨0, 3, 0⟩ 0 0]] [(⟨0, 3, 0⟩, .cells ty_Lpriority_Claim [.d a0]), (⟨0, 4, 0⟩, .row true ty_int 1 0 []), (⟨0, 13, 0⟩, .row true ty_int 1 n ((idL n).map DI))] K := by
 obtain ⟨b, hb⟩ := s_Len g n hn
 refine In.enter (f := n_slices_SortFunc_Lint_int) g.lim rfl rfl ?_
 repeat' ((conv => whnf); first
 | refine Yz ?_
  | (apply CallI.of; assumption)
  | (refine Wr.u64 ?_)
  | (refine In.enter (f := n_slices_pdqsortCmpFunc_int) g.lim rfl rfl ?_)
  | (refine LoopW.step g.lim ?_)
  | (refine in_insL g t hn f a0 hcmp (fun l hl => ?_))
  | (exact hK _ (by assumption)))
set_option maxHeartbeats 16000000 in
theorem in_insR {n : Nat} {lt : Int → Int → Bool} (t : Tot n lt) (hn : n ≤ 12) (f : Nat) (a0 a1 a2 a3 a4 a5 : D) (hcmp : ∀ (x y : Int) (l : List Int) {K : V → Mem → Prop}, x ∈ idL n → y ∈ idL n → (∀ c : Int, (c < 0 ↔ lt x y = true) → K (I c) [(⟨0, 1, 0⟩, .cells ty_priority_ranking [.d a0, .d a1, .d a2, .d a3, .d a4, .d a5]), (⟨0, 2, 0⟩, .row true ty_int 1 0 []), (⟨0, 14, 0⟩, .row true ty_int 1 n (l.map DI))]) → In E 4 f [I x, I y, .ptr ⟨0, 1, 0⟩ 0 0] [(⟨0, 1, 0⟩, .cells ty_priority_ranking [.d a0, .d a1, .d a2, .d a3, .d a4, .d a5]), (⟨0, 2, 0⟩, .row true ty_int 1 0 []), (⟨0, 14, 0⟩, .row true ty_int 1 n (l.map DI))] K) {K : V → Mem → Prop} (hK : ∀ l, Srt n lt l → K (.tup []) [(⟨0, 1, 0⟩, .cells ty_priority_ranking [.d a0, .d a1, .d a2, .d a3, .d a4, .d a5]), (⟨0, 2, 0⟩, .row true ty_int 1 0 []), (⟨0, 14, 0⟩, .row true ty_int 1 n (l.map DI))]) :
  In E 3 n_slices_insertionSortCmpFunc_int [.ref ⟨0, 14, 0⟩ 0 n n, I 0, I n, .fn f [] [.ptr ⟨0, 1, 0⟩ 0 0]] [(⟨0, 1, 0⟩, .cells ty_priority_ranking [.d a0, .d a1, .d a2, .d a3, .d a4, .d a5]), (⟨0, 2, 0⟩, .row true ty_int 1 0 []), (⟨0, 14, 0⟩, .row true ty_int 1 n ((idL n).map DI))] K := by
 refine In.enter (f := n_slices_insertionSortCmpFunc_int) g.lim rfl rfl ?_
 rcases Nat.eq_zero_or_pos n with h0 | h0
 ·subst h0
  have hs := hK [] ⟨List.Perm.nil, .nil⟩
  repeat' ((conv => whnf); first
  | refine Yz ?_
   | (refine LoopW.step g.lim ?_)
   | (exact hs))
 ·obtain ⟨x0, r0, hi⟩ : ∃ x r, idL n = x :: r := by
   cases h : idL n with
   | nil => have := idL_length n; rw [h] at this; simp at this; omega
   | cons x r => exact ⟨x, r, rfl⟩
  have hpm : (x0 :: r0).Perm (idL n) := by rw [hi]
  rw [hi]
  repeat' ((conv => whnf); first
  | refine Yz ?_)
  refine LoopW.to (LoopW.by g (fun s : InO => s.s.length = s.i ∧ s.s.Pairwise (fun a b => lt a b = true) ∧ (s.s ++ s.r).Perm (idL n))
   (fun s => [(0, .ref ⟨0, 14, 0⟩ 0 n n), (1, I 0), (2, I n), (3, .fn f [] [.ptr ⟨0, 1, 0⟩ 0 0]), (8, I s.i)])
   (fun s => [(⟨0, 1, 0⟩, .cells ty_priority_ranking [.d a0, .d a1, .d a2, .d a3, .d a4, .d a5]), (⟨0, 2, 0⟩, .row true ty_int 1 0 []), (⟨0, 14, 0⟩, .row true ty_int 1 n ((s.s ++ s.r).map DI))])
   (fun s => n - s.i) (fun s hs ih => ?_) ⟨1, [x0], r0⟩ ⟨rfl, List.pairwise_singleton .., hpm⟩) rfl rfl
  obtain ⟨i, s, r⟩ := s
  obtain ⟨h1, h2, h3⟩ := hs
  dsimp only at h1 h2 h3 ih ⊢
  have hlen := h3.length_eq
  rw [idL_length, List.length_append] at hlen
  by_cases hlt : i < n
  ·cases r with
   | nil => simp at hlen; omega
   | cons x r =>
    have hx : x ∈ idL n := h3.mem_iff.1 (by simp)
    have hsm : ∀ y ∈ s, y ∈ idL n := fun y hy => h3.mem_iff.1 (by simp [hy])
    have hnd : (s ++ x :: r).Nodup := by
     rw [h3.nodup_iff]
     refine List.pairwise_iff_getElem.2 fun a b ha hb hab => ?_
     rw [idL_length] at ha hb
     have e1 := List.getElem?_eq_getElem (l := idL n) (i := a) (by rw [idL_length]; exact ha)
     have e2 := List.getElem?_eq_getElem (l := idL n) (i := b) (by rw [idL_length]; exact hb)
     rw [idL_get ha] at e1
     rw [idL_get hb] at e2
     rw [← Option.some.inj e1, ← Option.some.inj e2]
     omega
    have hxs : x ∉ s := fun hc => (List.nodup_append.1 hnd).2.2 x hc x (by simp) rfl
    rw [List.length_cons] at hlen
    repeat' ((conv => whnf); first
    | refine Yz ?_)
    refine LoopW.to (LoopW.by g (fun u : InI => u.p.length = u.j ∧ Ins lt s x u.p u.q)
     (fun u => [(0, .ref ⟨0, 14, 0⟩ 0 n n), (1, I 0), (2, I n), (3, .fn f [] [.ptr ⟨0, 1, 0⟩ 0 0]), (8, I i), (9, I u.j)])
     (fun u => [(⟨0, 1, 0⟩, .cells ty_priority_ranking [.d a0, .d a1, .d a2, .d a3, .d a4, .d a5]), (⟨0, 2, 0⟩, .row true ty_int 1 0 []), (⟨0, 14, 0⟩, .row true ty_int 1 n ((u.p ++ x :: (u.q ++ r)).map DI))])
     (fun u => u.j) (fun u hu jh => ?_) ⟨i, s, []⟩ ⟨h1, Ins.start s x⟩) rfl rfl
    obtain ⟨j, p, q⟩ := u
    obtain ⟨k1, k2⟩ := hu
    dsimp only at k1 k2 jh ⊢
    have hpq := k2.eq
    have hpl : p.length + q.length = s.length := by rw [← hpq, List.length_append]
    have out : (p = [] ∨ ∃ p' y, p = p' ++ [y] ∧ lt x y = false) → (p ++ x :: q).Pairwise (fun a b => lt a b = true) := fun he => k2.done t h2 hsm hx hxs he
    have hperm : (p ++ x :: q ++ r).Perm (idL n) := by
     refine List.Perm.trans ?_ h3
     rw [← hpq]
     simp only [List.append_assoc, List.cons_append]
     exact List.Perm.append_left p List.perm_middle.symm
    have ih := ih ⟨i + 1, p ++ x :: q, r⟩
    dsimp only at ih
    rcases List.eq_nil_or_concat p with rfl | ⟨p', y, rfl⟩
    ·have ih := ih ⟨by simp at hpl ⊢; omega, out (.inl rfl), hperm⟩ (by omega)
     have hj0 : j = 0 := k1.symm
     subst hj0
     repeat' ((conv => whnf); first
     | refine Yz ?_
      | (refine LoopW.to ih rfl rfl))
    ·rw [List.concat_eq_append] at *
     obtain ⟨j, rfl⟩ : ∃ m, j = m + 1 := ⟨j - 1, by simp at k1; omega⟩
     have k3 : p'.length = j := by simpa using k1
     have hy : y ∈ idL n := hsm y (by rw [← hpq]; simp)
     have jh := jh ⟨j, p', y :: q⟩ 
     dsimp only at jh
     obtain ⟨L, hL⟩ : ∃ L, L = (p' ++ [y]) ++ x :: (q ++ r) := ⟨_, rfl⟩
     have hll : L.length = n := by
      rw [hL]
      simp only [List.length_append, List.length_cons, List.length_nil] at hpl hlen ⊢
      omega
     have g1 := get_at (l := L) (p := p' ++ [y]) (x := x) (r := q ++ r) (k := j + 1) hL (by simp [k3]) (by omega)
     have g2 := get_at (l := L) (p := p') (x := y) (r := x :: (q ++ r)) (k := j) (by rw [hL]; simp) (by simp [k3]) (by omega)
     have hsw := swap_row p' (q ++ r) x y (i := (0 + ((j + 1 : Nat) : Int).toNat) * 1) (j := (0 + (((j + 1 : Nat) : Int) - 1).toNat) * 1) (by omega) (by omega)
     rw [show p' ++ y :: x :: (q ++ r) = L by rw [hL]; simp] at hsw
     rw [← hL]
     by_cases hc0 : lt x y = true
     ·have jh := jh ⟨k3, k2.step hc0⟩ (by omega)
      have e1 : ((j + 1 : Nat) : Int) - 1 = (j : Int) := by omega
      repeat' ((conv => whnf); first
      | refine Yz ?_
       | (refine Pick.intI0 (j + 1) rfl (by omega) ?_; rw [g1])
       | (refine Pick.intI0 j (by omega) (by omega) ?_; rw [g2])
       | (refine hcmp x y L hx hy (fun c hc => ?_))
       | (refine Cmp.tt (hc.2 hc0) ?_)
       | (refine Need.mk ⟨rfl, by rw [patch_len _ _ _ (by omega)]; omega, rfl⟩ ?_)
       | (refine LoopW.to jh (by first | (rw [e1]; done) | (rw [e1]; rfl)) ?_))
      rw [hsw]
      rfl
     ·have hcf : lt x y = false := by simpa using hc0
      have ih := ih ⟨by simp only [List.length_append, List.length_cons, List.length_nil] at hpl ⊢; omega, out (.inr ⟨p', y, rfl, hcf⟩), hperm⟩ (by omega)
      rw [show (p' ++ [y]) ++ x :: q ++ r = L by rw [hL]; simp] at ih
      repeat' ((conv => whnf); first
      | refine Yz ?_
       | (refine Pick.intI0 (j + 1) rfl (by omega) ?_; rw [g1])
       | (refine Pick.intI0 j (by omega) (by omega) ?_; rw [g2])
       | (refine hcmp x y L hx hy (fun c hc => ?_))
       | (refine Cmp.ff (fun h => hc0 (hc.1 h)) ?_)
       | (refine LoopW.to ih rfl rfl))
  ·have hr : r = [] := List.length_eq_zero_iff.1 (by omega)
   subst hr
   rw [List.append_nil] at *
   have hs := hK s ⟨h3, h2⟩
   repeat' ((conv => whnf); first
   | refine Yz ?_
    | (exact hs))
theorem in_sortR {n : Nat} {lt : Int → Int → Bool} (t : Tot n lt) (hn : n ≤ 12) (f : Nat) (a0 a1 a2 a3 a4 a5 : D) (hcmp : ∀ (x y : Int) (l : List Int) {K : V → Mem → Prop}, x ∈ idL n → y ∈ idL n → (∀ c : Int, (c < 0 ↔ lt x y = true) → K (I c) [(⟨0, 1, 0⟩, .cells ty_priority_ranking [.d a0, .d a1, .d a2, .d a3, .d a4, .d a5]), (⟨0, 2, 0⟩, .row true ty_int 1 0 []), (⟨0, 14, 0⟩, .row true ty_int 1 n (l.map DI))]) → In E 4 f [I x, I y, .ptr ⟨0, 1, 0⟩ 0 0] [(⟨0, 1, 0⟩, .cells ty_priority_ranking [.d a0, .d a1, .d a2, .d a3, .d a4, .d a5]), (⟨0, 2, 0⟩, .row true ty_int 1 0 []), (⟨0, 14, 0⟩, .row true ty_int 1 n (l.map DI))] K) {K : V → Mem → Prop} (hK : ∀ l, Srt n lt l → K (.tup []) [(⟨0, 1, 0⟩, .cells ty_priority_ranking [.d a0, .d a1, .d a2, .d a3, .d a4, .d a5]), (⟨0, 2, 0⟩, .row true ty_int 1 0 []), (⟨0, 14, 0⟩, .row true ty_int 1 n (l.map DI))]) :
  In E 1 n_slices_SortFunc_Lint_int [.ref ⟨0, 14, 0⟩ 0 n n, .fn f [] [.ptr ⟨0, 1, 0⟩ 0 0]] [(⟨0, 1, 0⟩, .cells ty_priority_ranking [.d a0, .d a1, .d a2, .d a3, .d a4, .d a5]), (⟨0, 2, 0⟩, .row true ty_int 1 0 []), (⟨0, 14, 0⟩, .row true ty_int 1 n ((idL n).map DI))] K := by
 obtain ⟨b, hb⟩ := s_Len g n hn
 refine In.enter (f := n_slices_SortFunc_Lint_int) g.lim rfl rfl ?_
 repeat' ((conv => whnf); first
 | refine Yz ?_
  | (apply CallI.of; assumption)
  | (refine Wr.u64 ?_)
  | (refine In.enter (f := n_slices_pdqsortCmpFunc_int) g.lim rfl rfl ?_)
  | (refine LoopW.step g.lim ?_)
  | (refine in_insR g t hn f a0 a1 a2 a3 a4 a5 hcmp (fun l hl => ?_))
  | (exact hK _ (by assumption)))
end
end Go.Proofs.YtlnlcdnpgjhaaacGreatDoor.Co
