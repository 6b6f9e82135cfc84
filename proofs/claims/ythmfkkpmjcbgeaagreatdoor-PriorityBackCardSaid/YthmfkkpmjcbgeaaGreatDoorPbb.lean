/-
  PriorityBack returns true, for every argument: the law, and the last part of what it leans on.
-/
import Derived.Laws.RangeAny
import Derived.Lib.SplitLaws
import Derived.Test.YthmfkkpmjcbgeaaGreatDoorEvE
import Derived.Test.YthmfkkpmjcbgeaaGreatDoorEvRun
import Derived.Test.YthmfkkpmjcbgeaaGreatDoorEvX
import Derived.Test.YthmfkkpmjcbgeaaGreatDoorGood
import Derived.Test.YthmfkkpmjcbgeaaGreatDoorRead
import Derived.Test.YthmfkkpmjcbgeaaGreatDoorPba
/-
 Priority: a program of the program's as one of the reference's (own); two programs that are the same (Same).
-/
namespace Go.Proofs.YthmfkkpmjcbgeaaGreatDoor.Co
open Go Go.Evl
set_option maxRecDepth 100000
section
variable {E : Oracle} (g : Good E)
include g
set_option maxHeartbeats 8000000 in
theorem w_own (p : Prg) (hs : SmallP p) : Fc E n_law05_own [Pgv p] (Pgv p) := by
 refine g.fn rfl rfl ?_
 obtain ⟨l1, l2⟩ := hs
 repeat' ((conv => whnf); first
 | refine Yz ?_)
 refine LoopW.to (LoopW.up g (fun k => [(2, .ptr ⟨0, 2, 1⟩ 0 0), (3, .ptr ⟨0, 3, 1⟩ 0 0), (19, LC p.cl), (20, I p.cl.length), (21, I k)])
  (fun k => [(⟨0, 1, 0⟩, .cells ty_priority_Program [.d (.list p.cl.length (p.cl.flatMap Cls.cells)), .d (DI p.po), .d (DI p.of), .d (DI p.fo)]), (⟨0, 2, 0⟩, .row false ty_turnroundref05_Class 3 0 []), (⟨0, 2, 1⟩, .cells ty_turnroundref05_Program [.ref ⟨0, 2, 0⟩ 0 0 0, .d (DI 0), .d (DI 0), .d (DI 0)]), (⟨0, 17, 0⟩, .row false ty_turnroundref05_Class 3 k ((p.cl.take k).flatMap Cls.cells)), (⟨0, 3, 0⟩, .row false ty_turnroundref05_Class 3 0 []), (⟨0, 3, 1⟩, .cells ty_turnroundref05_Program [.ref ⟨0, 17, 0⟩ 0 k k, .d (DI p.po), .d (DI p.of), .d (DI p.fo)])])
  p.cl.length (fun k hk ih => ?_) 0 (Nat.zero_le _)) rfl rfl
 have hfl := fl_len Cls.cells 3 Cls.cells_length hk
 by_cases hlt : k < p.cl.length
 ·have ih := ih hlt
  rw [fl_succ Cls.cells hlt] at ih
  have l3 := l2 _ (List.getElem_mem hlt)
  generalize hx : p.cl[k] = x at *
  obtain ⟨nm, wh, ky⟩ := x
  obtain ⟨l4, l5⟩ := l3
  dsimp only at l4 l5
  repeat' ((conv => whnf); first
  | refine Yz ?_
   | (refine PickW.rec Cls.cells_length k rfl hlt ?_; rw [hx]))
  refine LoopW.to (LoopW.up g (fun j => [(2, .ptr ⟨0, 2, 1⟩ 0 0), (3, .ptr ⟨0, 3, 1⟩ 0 0), (5, .ptr ⟨0, 5, 0⟩ 0 0), (6, .ptr ⟨0, 6, 2⟩ 0 0), (19, LC p.cl), (20, I p.cl.length), (21, I k), (29, LT wh), (30, I wh.length), (31, I j)])
   (fun j => [(⟨0, 1, 0⟩, .cells ty_priority_Program [.d (.list p.cl.length (p.cl.flatMap Cls.cells)), .d (DI p.po), .d (DI p.of), .d (DI p.fo)]), (⟨0, 2, 0⟩, .row false ty_turnroundref05_Class 3 0 []), (⟨0, 2, 1⟩, .cells ty_turnroundref05_Program [.ref ⟨0, 2, 0⟩ 0 0 0, .d (DI 0), .d (DI 0), .d (DI 0)]), (⟨0, 17, 0⟩, .row false ty_turnroundref05_Class 3 k ((p.cl.take k).flatMap Cls.cells)), (⟨0, 3, 0⟩, .row false ty_turnroundref05_Class 3 0 []), (⟨0, 3, 1⟩, .cells ty_turnroundref05_Program [.ref ⟨0, 17, 0⟩ 0 k k, .d (DI p.po), .d (DI p.of), .d (DI p.fo)]), (⟨0, 5, 0⟩, .cells ty_priority_Class [.d (.str nm), .d (.list wh.length (wh.flatMap Tst.cells)), .d (.list ky.length (ky.flatMap Kyt.cells))]), (⟨0, 27, 0⟩, .row false ty_turnroundref05_Test 3 j ((wh.take j).flatMap Tst.cells)), (⟨0, 27, 1⟩, .row false ty_turnroundref05_Key 2 0 ([])), (⟨0, 6, 0⟩, .row false ty_turnroundref05_Test 3 0 []), (⟨0, 6, 1⟩, .row false ty_turnroundref05_Key 2 0 []), (⟨0, 6, 2⟩, .cells ty_turnroundref05_Class [.d (.str nm), .ref ⟨0, 27, 0⟩ 0 j j, .ref ⟨0, 27, 1⟩ 0 0 0])])
   wh.length (fun j hj jh => ?_) 0 (Nat.zero_le _)) rfl rfl
  have hft := fl_len Tst.cells 3 Tst.cells_length hj
  by_cases hjl : j < wh.length
  ·have jh := jh hjl
   rw [fl_succ Tst.cells hjl] at jh
   repeat' ((conv => whnf); first
   | refine Yz ?_
    | (refine PickW.rec Tst.cells_length j rfl hjl ?_)
    | (refine Need.mk (by simp only [List.length_cons, List.length_nil]; omega) ?_)
    | (refine LoopW.to jh rfl rfl))
  ·have ej : wh.take j = wh := List.take_of_length_le (by omega)
   have hj' : j = wh.length := by omega
   subst hj'
   rw [ej]
   repeat' ((conv => whnf); first
   | refine Yz ?_)
   refine LoopW.to (LoopW.up g (fun i => [(2, .ptr ⟨0, 2, 1⟩ 0 0), (3, .ptr ⟨0, 3, 1⟩ 0 0), (6, .ptr ⟨0, 6, 2⟩ 0 0), (19, LC p.cl), (20, I p.cl.length), (21, I k), (43, LK ky), (44, I ky.length), (45, I i)])
    (fun i => [(⟨0, 1, 0⟩, .cells ty_priority_Program [.d (.list p.cl.length (p.cl.flatMap Cls.cells)), .d (DI p.po), .d (DI p.of), .d (DI p.fo)]), (⟨0, 2, 0⟩, .row false ty_turnroundref05_Class 3 0 []), (⟨0, 2, 1⟩, .cells ty_turnroundref05_Program [.ref ⟨0, 2, 0⟩ 0 0 0, .d (DI 0), .d (DI 0), .d (DI 0)]), (⟨0, 17, 0⟩, .row false ty_turnroundref05_Class 3 k ((p.cl.take k).flatMap Cls.cells)), (⟨0, 3, 0⟩, .row false ty_turnroundref05_Class 3 0 []), (⟨0, 3, 1⟩, .cells ty_turnroundref05_Program [.ref ⟨0, 17, 0⟩ 0 k k, .d (DI p.po), .d (DI p.of), .d (DI p.fo)]), (⟨0, 5, 0⟩, .cells ty_priority_Class [.d (.str nm), .d (.list wh.length (wh.flatMap Tst.cells)), .d (.list ky.length (ky.flatMap Kyt.cells))]), (⟨0, 27, 0⟩, .row false ty_turnroundref05_Test 3 wh.length (wh.flatMap Tst.cells)), (⟨0, 27, 1⟩, .row false ty_turnroundref05_Key 2 i ((ky.take i).flatMap Kyt.cells)), (⟨0, 6, 0⟩, .row false ty_turnroundref05_Test 3 0 []), (⟨0, 6, 1⟩, .row false ty_turnroundref05_Key 2 0 []), (⟨0, 6, 2⟩, .cells ty_turnroundref05_Class [.d (.str nm), .ref ⟨0, 27, 0⟩ 0 wh.length wh.length, .ref ⟨0, 27, 1⟩ 0 i i])])
    ky.length (fun i hi ik => ?_) 0 (Nat.zero_le _)) rfl rfl
   have hfk := fl_len Kyt.cells 2 Kyt.cells_length hi
   by_cases hil : i < ky.length
   ·have ik := ik hil
    rw [fl_succ Kyt.cells hil] at ik
    repeat' ((conv => whnf); first
    | refine Yz ?_
     | (refine PickW.rec Kyt.cells_length i rfl hil ?_)
     | (refine Need.mk (by simp only [List.length_cons, List.length_nil]; omega) ?_)
     | (refine LoopW.to ik rfl rfl))
   ·have ei : ky.take i = ky := List.take_of_length_le (by omega)
    have hi' : i = ky.length := by omega
    subst hi'
    rw [ei]
    repeat' ((conv => whnf); first
    | refine Yz ?_
     | (refine Need.mk (by simp only [List.length_cons, List.length_nil]; omega) ?_)
     | (refine LoopW.to ih rfl ?_))
    rw [if_pos ⟨rfl, rfl⟩, if_pos ⟨rfl, rfl⟩]
    rfl
 ·have ek : p.cl.take k = p.cl := List.take_of_length_le (by omega)
  have hk' : k = p.cl.length := by omega
  subst hk'
  rw [ek]
  repeat' ((conv => whnf); first
  | refine Yz ?_
   | (refine Need.mk ⟨rfl, by simp⟩ ?_)
   | (refine Ret.mk ?_))
  refine congrArg (fun x => V.d (.agg [.list p.cl.length x, DI p.po, DI p.of, DI p.fo])) (?_ : _ = p.cl.flatMap Cls.cells)
  exact if_pos ⟨rfl, rfl⟩
abbrev smP (p : Prg) : Mem := [(⟨0, 2, 0⟩, .cells ty_turnroundref05_Program [LC p.cl, I p.po, I p.of, I p.fo]), (⟨0, 3, 0⟩, .cells ty_turnroundref05_Program [LC p.cl, I p.po, I p.of, I p.fo])]
abbrev smC (nm : List UInt8) (wh : List Tst) (ky : List Kyt) : Mem := [(⟨0, 6, 0⟩, .cells ty_turnroundref05_Class [S nm, LT wh, LK ky]), (⟨0, 7, 0⟩, .cells ty_turnroundref05_Class [S nm, LT wh, LK ky])]
set_option maxHeartbeats 8000000 in
theorem r_SameP (p : Prg) (hs : SmallP p) : Fc E n_ref05_Same [Pgv p, Pgv p] (B true) := by
 obtain ⟨l1, l2⟩ := hs
 refine g.fn rfl rfl ?_
 repeat' ((conv => whnf); first
 | refine Yz ?_
  | fail)
 refine LoopW.to (LoopW.up g (fun k => [(2, .ptr ⟨0, 2, 0⟩ 0 0), (3, .ptr ⟨0, 3, 0⟩ 0 0), (5, I k)]) (fun _ => smP p) p.cl.length (fun k hk ih => ?_) 0 (Nat.zero_le _)) rfl rfl
 by_cases hlt : k < p.cl.length
 ·have ih := ih hlt
  have l3 := l2 _ (List.getElem_mem hlt)
  generalize hx : p.cl[k] = x at *
  obtain ⟨nm, wh, ky⟩ := x
  obtain ⟨l4, l5⟩ := l3
  dsimp only at l4 l5
  repeat' ((conv => whnf); first
  | refine Yz ?_
   | (refine PickW.rec Cls.cells_length k rfl hlt ?_; rw [hx])
   | (refine Cmp.tt rfl ?_)
   | fail)
  refine LoopW.to (LoopW.up g (fun j => [(2, .ptr ⟨0, 2, 0⟩ 0 0), (3, .ptr ⟨0, 3, 0⟩ 0 0), (5, I k), (6, .ptr ⟨0, 6, 0⟩ 0 0), (7, .ptr ⟨0, 7, 0⟩ 0 0), (8, I j)]) (fun _ => smP p ++ smC nm wh ky) wh.length (fun j hj jh => ?_) 0 (Nat.zero_le _)) rfl rfl
  by_cases hjl : j < wh.length
  ·have jh := jh hjl
   repeat' ((conv => whnf); first
   | refine Yz ?_
    | (refine PickW.rec Tst.cells_length j rfl hjl ?_)
    | (refine Cmp.tt ⟨rfl, rfl, rfl⟩ ?_)
    | (refine LoopW.to jh rfl rfl)
    | fail)
  ·obtain rfl : j = wh.length := by omega
   clear jh
   repeat' ((conv => whnf); first
   | refine Yz ?_
    | fail)
   refine LoopW.to (LoopW.up g (fun i => [(2, .ptr ⟨0, 2, 0⟩ 0 0), (3, .ptr ⟨0, 3, 0⟩ 0 0), (5, I k), (6, .ptr ⟨0, 6, 0⟩ 0 0), (7, .ptr ⟨0, 7, 0⟩ 0 0), (9, I i)]) (fun _ => smP p ++ smC nm wh ky) ky.length (fun i hi ik => ?_) 0 (Nat.zero_le _)) rfl rfl
   by_cases hil : i < ky.length
   ·have ik := ik hil
    repeat' ((conv => whnf); first
    | refine Yz ?_
     | (refine PickW.rec Kyt.cells_length i rfl hil ?_)
     | (refine Cmp.tt ⟨rfl, rfl⟩ ?_)
     | (refine LoopW.to ik rfl rfl)
     | fail)
   ·repeat' ((conv => whnf); first
   | refine Yz ?_
     | (refine LoopW.to ih rfl rfl)
     | fail)
 ·repeat' ((conv => whnf); first
 | refine Yz ?_
   | (exact Ret.mk rfl)
   | fail)
end
end Go.Proofs.YthmfkkpmjcbgeaaGreatDoor.Co
/-
 Priority: short programs.
-/
namespace Go.Proofs.YthmfkkpmjcbgeaaGreatDoor.Co
open Go Go.Evl
set_option maxRecDepth 100000
def shortT (t : Tst) : Bool := decide (t.fa.length ≤ 40 ∧ t.op.length ≤ 40)
def shortK (k : Kyt) : Bool := decide (k.fa.length ≤ 40)
def headC (c : Cls) : Bool := decide (c.nm.length ≤ 40 ∧ (c.wh.length ≤ 4 ∨ c.wh.length = 9) ∧ (c.ky.length ≤ 4 ∨ c.ky.length = 9))
def shortC (c : Cls) : Bool := headC c && (c.wh.all shortT && c.ky.all shortK)
def shortP (p : Prg) : Bool := decide (p.cl.length ≤ 5 ∨ p.cl.length = 17) && p.cl.all shortC
def BigP (p : Prg) : Prop := p.cl.length ≤ 9223372036854775807 ∧ ∀ c ∈ p.cl, c.wh.length ≤ 9223372036854775807 ∧ c.ky.length ≤ 9223372036854775807
theorem shortP_small {p : Prg} (h : shortP p = true) : SmallP p := by
 simp only [shortP, shortC, headC, Bool.and_eq_true, decide_eq_true_eq, List.all_eq_true] at h
 refine ⟨by omega, fun c hc => ?_⟩
 have := (h.2 c hc).1
 exact ⟨by omega, by omega⟩
section
variable {E : Oracle} (g : Good E)
include g
set_option maxHeartbeats 8000000 in
theorem r_ShortP (p : Prg) (hs : BigP p) : Fc E n_ref05_Short [Pgv p] (B (shortP p)) := by
 refine g.fn rfl rfl ?_
 obtain ⟨l1, l2⟩ := hs
 unfold shortP
 by_cases hl : p.cl.length ≤ 5 ∨ p.cl.length = 17
 ·rw [decide_eq_true hl, Bool.true_and]
  generalize hR : p.cl.all shortC = R
  repeat' ((conv => whnf); first
  | refine Yz ?_
   | (refine Cmp.mk (fun h => ?_) (fun h => ?_)) | (refine Rem.any (by omega) (fun r hr he => ?_)) | (refine Br.mk (fun h => ?_) (fun h => ?_))
   | (exfalso; omega))
  all_goals
   refine LoopW.to (LoopW.upP g (fun k => [(1, .ptr ⟨0, 1, 0⟩ 0 0), (3, I k)]) (fun _ => _) (fun k => (p.cl.drop k).all shortC = R) p.cl.length (fun k hk h0 ih => ?_) 0 (Nat.zero_le _) hR) rfl rfl
   by_cases hlt : k < p.cl.length
   ·rw [List.drop_eq_getElem_cons hlt, List.all_cons] at h0
    have ih := ih hlt
    have l3 := l2 _ (List.getElem_mem hlt)
    generalize hx : p.cl[k] = x at *
    obtain ⟨l4, l5⟩ := l3
    unfold shortC at h0
    by_cases hh : x.nm.length ≤ 40 ∧ (x.wh.length ≤ 4 ∨ x.wh.length = 9) ∧ (x.ky.length ≤ 4 ∨ x.ky.length = 9)
    ·have hd : headC x = true := decide_eq_true hh
     rw [hd, Bool.true_and] at h0
     generalize hA : x.wh.all shortT = A at h0
     generalize hB : x.ky.all shortK = B' at h0
     repeat' ((conv => whnf); first
     | refine Yz ?_
      | (refine PickW.rec Cls.cells_length k rfl hlt ?_; rw [hx])
      | (refine Cmp.mk (fun h => ?_) (fun h => ?_)) | (refine Rem.any (by omega) (fun r hr he => ?_)) | (refine Br.mk (fun h => ?_) (fun h => ?_))
      | (exfalso; omega))
     all_goals
      refine LoopW.to (LoopW.upP g (fun j => [(1, .ptr ⟨0, 1, 0⟩ 0 0), (3, I k), (4, .ptr ⟨0, 4, 0⟩ 0 0), (5, I j)]) (fun _ => _) (fun j => (x.wh.drop j).all shortT = A) x.wh.length (fun j hj h1 jh => ?_) 0 (Nat.zero_le _) hA) rfl rfl
      by_cases hjl : j < x.wh.length
      ·rw [List.drop_eq_getElem_cons hjl, List.all_cons] at h1
       have jh := jh hjl
       by_cases ht : x.wh[j].fa.length ≤ 40 ∧ x.wh[j].op.length ≤ 40
       ·have hd : shortT x.wh[j] = true := decide_eq_true ht
        rw [hd, Bool.true_and] at h1
        have jh := jh h1
        repeat' ((conv => whnf); first
        | refine Yz ?_
         | (refine Pick.rec Tst.cells_length j rfl hjl rfl ?_)
         | (refine LoopW.to jh rfl rfl))
       ·have hd : shortT x.wh[j] = false := decide_eq_false ht
        rw [hd, Bool.false_and] at h1
        rw [← h1, Bool.false_and, Bool.false_and] at h0
        rw [← h0]
        repeat' ((conv => whnf); first
        | refine Yz ?_
         | (refine Pick.rec Tst.cells_length j rfl hjl rfl ?_)
         | (refine Cmp.mk (fun h => ?_) (fun h => ?_)) | (refine Rem.any (by omega) (fun r hr he => ?_)) | (refine Br.mk (fun h => ?_) (fun h => ?_))
         | (refine Ret.mk rfl)
         | (exfalso; omega))
      ·rw [List.drop_eq_nil_of_le (by omega), List.all_nil] at h1
       rw [← h1, Bool.true_and] at h0
       repeat' ((conv => whnf); first
       | refine Yz ?_)
       refine LoopW.to (LoopW.upP g (fun i => [(1, .ptr ⟨0, 1, 0⟩ 0 0), (3, I k), (4, .ptr ⟨0, 4, 0⟩ 0 0), (6, I i)]) (fun _ => _) (fun i => (x.ky.drop i).all shortK = B') x.ky.length (fun i hi h2 ik => ?_) 0 (Nat.zero_le _) hB) rfl rfl
       by_cases hil : i < x.ky.length
       ·rw [List.drop_eq_getElem_cons hil, List.all_cons] at h2
        have ik := ik hil
        by_cases ht : x.ky[i].fa.length ≤ 40
        ·have hd : shortK x.ky[i] = true := decide_eq_true ht
         rw [hd, Bool.true_and] at h2
         have ik := ik h2
         repeat' ((conv => whnf); first
         | refine Yz ?_
          | (refine Pick.rec Kyt.cells_length i rfl hil rfl ?_)
          | (refine LoopW.to ik rfl rfl))
        ·have hd : shortK x.ky[i] = false := decide_eq_false ht
         rw [hd, Bool.false_and] at h2
         rw [← h2, Bool.false_and] at h0
         rw [← h0]
         repeat' ((conv => whnf); first
         | refine Yz ?_
          | (refine Pick.rec Kyt.cells_length i rfl hil rfl ?_)
          | (refine Ret.mk rfl))
       ·rw [List.drop_eq_nil_of_le (by omega), List.all_nil] at h2
        rw [← h2, Bool.true_and] at h0
        have ih := ih h0
        repeat' ((conv => whnf); first
        | refine Yz ?_
         | (refine LoopW.to ih rfl rfl))
    ·have hd : headC x = false := decide_eq_false hh
     rw [hd, Bool.false_and, Bool.false_and] at h0
     rw [← h0]
     repeat' ((conv => whnf); first
     | refine Yz ?_
      | (refine PickW.rec Cls.cells_length k rfl hlt ?_; rw [hx])
      | (refine Cmp.mk (fun h => ?_) (fun h => ?_)) | (refine Rem.any (by omega) (fun r hr he => ?_)) | (refine Br.mk (fun h => ?_) (fun h => ?_))
      | (refine Ret.mk rfl)
      | (exfalso; omega))
   ·rw [List.drop_eq_nil_of_le (by omega), List.all_nil] at h0
    rw [← h0]
    repeat' ((conv => whnf); first
    | refine Yz ?_
     | (refine Ret.mk rfl))
 ·rw [decide_eq_false hl, Bool.false_and]
  repeat' ((conv => whnf); first
  | refine Yz ?_
   | (refine Cmp.mk (fun h => ?_) (fun h => ?_)) | (refine Rem.any (by omega) (fun r hr he => ?_)) | (refine Br.mk (fun h => ?_) (fun h => ?_))
   | (refine Ret.mk rfl)
   | (exfalso; omega))
end
end Go.Proofs.YthmfkkpmjcbgeaaGreatDoor.Co
/-
 Priority: programs as a law's parameters.
-/
namespace Go.Proofs.YthmfkkpmjcbgeaaGreatDoor.Co
open Go Go.Evl
set_option maxRecDepth 100000
theorem fit_Tests {k : Nat} : ∀ (m : Nat) {ds : List D}, fitAll (fit Tryz.prog (k + 2)) (List.replicate m 86) ds → ∃ l : List Tst, ds = l.flatMap Tst.cells ∧ l.length = m
 | 0, ds, h => ⟨[], h, rfl⟩
 | m + 1, ds, h => by
  obtain ⟨a, b, rfl, h1, h2⟩ := h
  obtain ⟨x, rfl⟩ := fit_Test h1
  obtain ⟨l, rfl, h3⟩ := fit_Tests m h2
  exact ⟨x :: l, rfl, by simp [h3]⟩
theorem fit_Key {k : Nat} {ds : List D} (h : fit Tryz.prog (k + 2) 88 ds) : ∃ t : Kyt, ds = t.cells := by
 obtain ⟨_, _, rfl, h1, _, _, rfl, h2, rfl⟩ := fit_st Tryz.underlying88 h
 obtain ⟨s1, rfl⟩ := fit_str h1
 obtain ⟨b, rfl⟩ := fit_bo h2
 exact ⟨⟨s1, b⟩, rfl⟩
theorem fit_Keys {k : Nat} : ∀ (m : Nat) {ds : List D}, fitAll (fit Tryz.prog (k + 2)) (List.replicate m 88) ds → ∃ l : List Kyt, ds = l.flatMap Kyt.cells ∧ l.length = m
 | 0, ds, h => ⟨[], h, rfl⟩
 | m + 1, ds, h => by
  obtain ⟨a, b, rfl, h1, h2⟩ := h
  obtain ⟨x, rfl⟩ := fit_Key h1
  obtain ⟨l, rfl, h3⟩ := fit_Keys m h2
  exact ⟨x :: l, rfl, by simp [h3]⟩
theorem fit_Class {k : Nat} {ds : List D} (h : fit Tryz.prog (k + 4) 81 ds) : ∃ c : Cls, ds = c.cells ∧ c.wh.length ≤ 9223372036854775807 ∧ c.ky.length ≤ 9223372036854775807 := by
 obtain ⟨_, _, rfl, h1, _, _, rfl, h2, _, _, rfl, h3, rfl⟩ := fit_st Tryz.underlying81 h
 obtain ⟨s1, rfl⟩ := fit_str h1
 obtain ⟨m, cs, rfl, a1, h4⟩ := fit_l Tryz.underlying78 h2
 obtain ⟨n, es, rfl, a2, h5⟩ := fit_l Tryz.underlying79 h3
 obtain ⟨l, rfl, rfl⟩ := fit_Tests m h4
 obtain ⟨q, rfl, rfl⟩ := fit_Keys n h5
 exact ⟨⟨s1, l, q⟩, rfl, Nat.le_trans a1 (by decide), Nat.le_trans a2 (by decide)⟩
theorem fit_Classes {k : Nat} : ∀ (m : Nat) {ds : List D}, fitAll (fit Tryz.prog (k + 4)) (List.replicate m 81) ds → ∃ l : List Cls, ds = l.flatMap Cls.cells ∧ l.length = m ∧ ∀ c ∈ l, c.wh.length ≤ 9223372036854775807 ∧ c.ky.length ≤ 9223372036854775807
 | 0, ds, h => ⟨[], h, rfl, fun _ h => by cases h⟩
 | m + 1, ds, h => by
  obtain ⟨a, b, rfl, h1, h2⟩ := h
  obtain ⟨x, rfl, b1⟩ := fit_Class h1
  obtain ⟨l, rfl, h3, b2⟩ := fit_Classes m h2
  refine ⟨x :: l, rfl, by simp [h3], fun c hc => ?_⟩
  rcases List.mem_cons.1 hc with rfl | hc
  ·exact b1
  ·exact b2 c hc
theorem arg_Program {x : D} (h : fitArg Tryz.prog 31 x) : ∃ p : Prg, x = .agg p.cells ∧ BigP p := by
 obtain ⟨ds, rfl, _, _, rfl, h1, _, _, rfl, h2, _, _, rfl, h3, _, _, rfl, h4, rfl⟩ := arg_st Tryz.underlying31 h
 obtain ⟨m, cs, rfl, a1, h5⟩ := fit_l Tryz.underlying29 h1
 obtain ⟨l, rfl, rfl, b1⟩ := fit_Classes m h5
 obtain ⟨n1, rfl, _⟩ := fit_int h2
 obtain ⟨n2, rfl, _⟩ := fit_int h3
 obtain ⟨n3, rfl, _⟩ := fit_int h4
 exact ⟨⟨l, n1, n2, n3⟩, rfl, Nat.le_trans a1 (by decide), b1⟩
end Go.Proofs.YthmfkkpmjcbgeaaGreatDoor.Co
/-
 Priority: how long the text of a short program is.
-/
namespace Go.Proofs.YthmfkkpmjcbgeaaGreatDoor.Co
open Go Go.Evl
theorem prgL_len {p : Prg} (h : chkPg p = 0) (hs : shortP p = true) : 10 ≤ (prgL p).length ∧ (prgL p).length ≤ 4096 := by
 have ok := chkPg_zero h
 simp only [shortP, Bool.and_eq_true, decide_eq_true_eq] at hs
 have h5 : p.cl.length ≤ 5 := by
  have := ok.many
  omega
 have key : ∀ l : List Cls, (∀ c ∈ l, OkCls c) → (l.flatMap clsL).length ≤ l.length * 621 := fun l => by
  induction l with
  | nil => intro _; exact Nat.le_refl _
  | cons c r ih =>
   intro hc
   have i1 := ih fun x hx => hc x (List.mem_cons_of_mem _ hx)
   have i2 := jK_len (hc c (List.mem_cons_self ..)) c.ky.length
   rw [List.flatMap_cons, List.length_append, List.length_cons, clsL, List.length_append, List.length_singleton]
   omega
 have h1 := key p.cl ok.cs
 have h2 := poolW_len p
 unfold prgL
 rw [List.length_append, List.length_append, List.length_singleton]
 constructor
 ·simp only [poolW, joined, List.length_append, List.length_cons, List.length_nil]
  omega
 ·omega
end Go.Proofs.YthmfkkpmjcbgeaaGreatDoor.Co
/-
 The fixed example of chapter 5's laws comes out: each call computed by the kernel, then the walk through them.
-/
namespace Go.Proofs.YthmfkkpmjcbgeaaGreatDoor.Co
open Go Go.Evl
section
variable {E : Oracle} (g : Good E)
include g
set_option maxRecDepth 100000
theorem ap1 : Fc E n_priority_Default [] (.d (.agg [.list 4 [.str [104, 105, 115, 116, 111, 114, 105, 99], .list 2 [.str [104, 105, 115, 116, 111, 114, 105, 99], .str [61], DI 1, .str [114, 101, 116, 105, 109, 101, 100], .str [61], DI 0], .list 2 [.str [100, 97, 121, 115], .bool true, .str [115, 101, 97, 116, 115], .bool true], .str [114, 101, 116, 105, 109, 101, 100], .list 1 [.str [104, 105, 115, 116, 111, 114, 105, 99], .str [61], DI 1], .list 2 [.str [100, 97, 121, 115], .bool true, .str [115, 101, 97, 116, 115], .bool true], .str [121, 101, 97, 114, 114, 111, 117, 110, 100], .list 1 [.str [121, 101, 97, 114, 114, 111, 117, 110, 100], .str [61], DI 1], .list 3 [.str [100, 97, 121, 115], .bool true, .str [115, 101, 97, 116, 115], .bool true, .str [100, 105, 115, 116, 97, 110, 99, 101], .bool true], .str [111, 116, 104, 101, 114, 115], .list 0 [], .list 3 [.str [100, 97, 121, 115], .bool true, .str [115, 101, 97, 116, 115], .bool true, .str [100, 105, 115, 116, 97, 110, 99, 101], .bool true]], DI 2, DI 2, DI 1])) := g.compR 1000 (by decide +kernel)
theorem ap2 : Fc E n_priority_Print [.d (.agg [.list 4 [.str [104, 105, 115, 116, 111, 114, 105, 99], .list 2 [.str [104, 105, 115, 116, 111, 114, 105, 99], .str [61], DI 1, .str [114, 101, 116, 105, 109, 101, 100], .str [61], DI 0], .list 2 [.str [100, 97, 121, 115], .bool true, .str [115, 101, 97, 116, 115], .bool true], .str [114, 101, 116, 105, 109, 101, 100], .list 1 [.str [104, 105, 115, 116, 111, 114, 105, 99], .str [61], DI 1], .list 2 [.str [100, 97, 121, 115], .bool true, .str [115, 101, 97, 116, 115], .bool true], .str [121, 101, 97, 114, 114, 111, 117, 110, 100], .list 1 [.str [121, 101, 97, 114, 114, 111, 117, 110, 100], .str [61], DI 1], .list 3 [.str [100, 97, 121, 115], .bool true, .str [115, 101, 97, 116, 115], .bool true, .str [100, 105, 115, 116, 97, 110, 99, 101], .bool true], .str [111, 116, 104, 101, 114, 115], .list 0 [], .list 3 [.str [100, 97, 121, 115], .bool true, .str [115, 101, 97, 116, 115], .bool true, .str [100, 105, 115, 116, 97, 110, 99, 101], .bool true]], DI 2, DI 2, DI 1])] (.tup [.d (.str [99, 108, 97, 115, 115, 32, 104, 105, 115, 116, 111, 114, 105, 99, 32, 119, 104, 101, 110, 32, 104, 105, 115, 116, 111, 114, 105, 99, 61, 49, 32, 114, 101, 116, 105, 109, 101, 100, 61, 48, 32, 98, 121, 32, 100, 97, 121, 115, 45, 32, 115, 101, 97, 116, 115, 45, 10, 99, 108, 97, 115, 115, 32, 114, 101, 116, 105, 109, 101, 100, 32, 119, 104, 101, 110, 32, 104, 105, 115, 116, 111, 114, 105, 99, 61, 49, 32, 98, 121, 32, 100, 97, 121, 115, 45, 32, 115, 101, 97, 116, 115, 45, 10, 99, 108, 97, 115, 115, 32, 121, 101, 97, 114, 114, 111, 117, 110, 100, 32, 119, 104, 101, 110, 32, 121, 101, 97, 114, 114, 111, 117, 110, 100, 61, 49, 32, 98, 121, 32, 100, 97, 121, 115, 45, 32, 115, 101, 97, 116, 115, 45, 32, 100, 105, 115, 116, 97, 110, 99, 101, 45, 10, 99, 108, 97, 115, 115, 32, 111, 116, 104, 101, 114, 115, 32, 98, 121, 32, 100, 97, 121, 115, 45, 32, 115, 101, 97, 116, 115, 45, 32, 100, 105, 115, 116, 97, 110, 99, 101, 45, 10, 112, 111, 111, 108, 32, 50, 32, 115, 104, 97, 114, 101, 32, 49, 32, 111, 102, 32, 50, 10]), .d (DI 0)]) := g.compR 1000 (by decide +kernel)
theorem ap3 : Fc E n_priority_Parse [S [99, 108, 97, 115, 115, 32, 104, 105, 115, 116, 111, 114, 105, 99, 32, 119, 104, 101, 110, 32, 104, 105, 115, 116, 111, 114, 105, 99, 61, 49, 32, 114, 101, 116, 105, 109, 101, 100, 61, 48, 32, 98, 121, 32, 100, 97, 121, 115, 45, 32, 115, 101, 97, 116, 115, 45, 10, 99, 108, 97, 115, 115, 32, 114, 101, 116, 105, 109, 101, 100, 32, 119, 104, 101, 110, 32, 104, 105, 115, 116, 111, 114, 105, 99, 61, 49, 32, 98, 121, 32, 100, 97, 121, 115, 45, 32, 115, 101, 97, 116, 115, 45, 10, 99, 108, 97, 115, 115, 32, 121, 101, 97, 114, 114, 111, 117, 110, 100, 32, 119, 104, 101, 110, 32, 121, 101, 97, 114, 114, 111, 117, 110, 100, 61, 49, 32, 98, 121, 32, 100, 97, 121, 115, 45, 32, 115, 101, 97, 116, 115, 45, 32, 100, 105, 115, 116, 97, 110, 99, 101, 45, 10, 99, 108, 97, 115, 115, 32, 111, 116, 104, 101, 114, 115, 32, 98, 121, 32, 100, 97, 121, 115, 45, 32, 115, 101, 97, 116, 115, 45, 32, 100, 105, 115, 116, 97, 110, 99, 101, 45, 10, 112, 111, 111, 108, 32, 50, 32, 115, 104, 97, 114, 101, 32, 49, 32, 111, 102, 32, 50, 10]] (.tup [.d (.agg [.list 4 [.str [104, 105, 115, 116, 111, 114, 105, 99], .list 2 [.str [104, 105, 115, 116, 111, 114, 105, 99], .str [61], DI 1, .str [114, 101, 116, 105, 109, 101, 100], .str [61], DI 0], .list 2 [.str [100, 97, 121, 115], .bool true, .str [115, 101, 97, 116, 115], .bool true], .str [114, 101, 116, 105, 109, 101, 100], .list 1 [.str [104, 105, 115, 116, 111, 114, 105, 99], .str [61], DI 1], .list 2 [.str [100, 97, 121, 115], .bool true, .str [115, 101, 97, 116, 115], .bool true], .str [121, 101, 97, 114, 114, 111, 117, 110, 100], .list 1 [.str [121, 101, 97, 114, 114, 111, 117, 110, 100], .str [61], DI 1], .list 3 [.str [100, 97, 121, 115], .bool true, .str [115, 101, 97, 116, 115], .bool true, .str [100, 105, 115, 116, 97, 110, 99, 101], .bool true], .str [111, 116, 104, 101, 114, 115], .list 0 [], .list 3 [.str [100, 97, 121, 115], .bool true, .str [115, 101, 97, 116, 115], .bool true, .str [100, 105, 115, 116, 97, 110, 99, 101], .bool true]], DI 2, DI 2, DI 1]), .d (DI 0), .d (DI 0)]) := g.compR 1000 (by decide +kernel)
theorem ap4 : Fc E n_law05_sample [S [104], I 90] (.d (.agg [.str [104], .str [97, 98], .str [65], .str [], .str [102, 97, 114], .str [], DI 8900, DI 8920, DI 5, DI 600, DI 90, DI 4, DI 0, .bool false, .bool false, .bool false, .bool false, DI 0])) := g.compR 1000 (by decide +kernel)
theorem ap5 : Fc E n_law05_sample [S [99], I 180] (.d (.agg [.str [99], .str [97, 98], .str [65], .str [], .str [102, 97, 114], .str [], DI 8900, DI 8920, DI 5, DI 600, DI 180, DI 4, DI 0, .bool false, .bool false, .bool false, .bool false, DI 0])) := g.compR 1000 (by decide +kernel)
theorem ap6 : Fc E n_law05_sample [S [100], I 150] (.d (.agg [.str [100], .str [97, 98], .str [65], .str [], .str [102, 97, 114], .str [], DI 8900, DI 8920, DI 5, DI 600, DI 150, DI 4, DI 0, .bool false, .bool false, .bool false, .bool false, DI 0])) := g.compR 1000 (by decide +kernel)
theorem ap7 : Fc E n_law05_sample [S [98], I 100] (.d (.agg [.str [98], .str [97, 98], .str [65], .str [], .str [102, 97, 114], .str [], DI 8900, DI 8920, DI 5, DI 600, DI 100, DI 4, DI 0, .bool false, .bool false, .bool false, .bool false, DI 0])) := g.compR 1000 (by decide +kernel)
theorem ap8 : Fc E n_law05_sample [S [101], I 90] (.d (.agg [.str [101], .str [97, 98], .str [65], .str [], .str [102, 97, 114], .str [], DI 8900, DI 8920, DI 5, DI 600, DI 90, DI 4, DI 0, .bool false, .bool false, .bool false, .bool false, DI 0])) := g.compR 1000 (by decide +kernel)
theorem ap9 : Fc E n_priority_ClassOf [.d (.agg [.list 4 [.str [104, 105, 115, 116, 111, 114, 105, 99], .list 2 [.str [104, 105, 115, 116, 111, 114, 105, 99], .str [61], DI 1, .str [114, 101, 116, 105, 109, 101, 100], .str [61], DI 0], .list 2 [.str [100, 97, 121, 115], .bool true, .str [115, 101, 97, 116, 115], .bool true], .str [114, 101, 116, 105, 109, 101, 100], .list 1 [.str [104, 105, 115, 116, 111, 114, 105, 99], .str [61], DI 1], .list 2 [.str [100, 97, 121, 115], .bool true, .str [115, 101, 97, 116, 115], .bool true], .str [121, 101, 97, 114, 114, 111, 117, 110, 100], .list 1 [.str [121, 101, 97, 114, 114, 111, 117, 110, 100], .str [61], DI 1], .list 3 [.str [100, 97, 121, 115], .bool true, .str [115, 101, 97, 116, 115], .bool true, .str [100, 105, 115, 116, 97, 110, 99, 101], .bool true], .str [111, 116, 104, 101, 114, 115], .list 0 [], .list 3 [.str [100, 97, 121, 115], .bool true, .str [115, 101, 97, 116, 115], .bool true, .str [100, 105, 115, 116, 97, 110, 99, 101], .bool true]], DI 2, DI 2, DI 1]), .d (.agg [.str [104], .str [97, 98], .str [65], .str [], .str [102, 97, 114], .str [], DI 8900, DI 8920, DI 5, DI 600, DI 90, DI 4, DI 0, .bool true, .bool true, .bool false, .bool false, DI 0])] (.tup [.d (DI 1), .d (DI 0)]) := g.compR 1000 (by decide +kernel)
theorem ap10 : Fc E n_priority_ClassOf [.d (.agg [.list 4 [.str [104, 105, 115, 116, 111, 114, 105, 99], .list 2 [.str [104, 105, 115, 116, 111, 114, 105, 99], .str [61], DI 1, .str [114, 101, 116, 105, 109, 101, 100], .str [61], DI 0], .list 2 [.str [100, 97, 121, 115], .bool true, .str [115, 101, 97, 116, 115], .bool true], .str [114, 101, 116, 105, 109, 101, 100], .list 1 [.str [104, 105, 115, 116, 111, 114, 105, 99], .str [61], DI 1], .list 2 [.str [100, 97, 121, 115], .bool true, .str [115, 101, 97, 116, 115], .bool true], .str [121, 101, 97, 114, 114, 111, 117, 110, 100], .list 1 [.str [121, 101, 97, 114, 114, 111, 117, 110, 100], .str [61], DI 1], .list 3 [.str [100, 97, 121, 115], .bool true, .str [115, 101, 97, 116, 115], .bool true, .str [100, 105, 115, 116, 97, 110, 99, 101], .bool true], .str [111, 116, 104, 101, 114, 115], .list 0 [], .list 3 [.str [100, 97, 121, 115], .bool true, .str [115, 101, 97, 116, 115], .bool true, .str [100, 105, 115, 116, 97, 110, 99, 101], .bool true]], DI 2, DI 2, DI 1]), .d (.agg [.str [99], .str [97, 98], .str [65], .str [], .str [102, 97, 114], .str [], DI 8900, DI 8920, DI 5, DI 600, DI 180, DI 4, DI 0, .bool false, .bool false, .bool false, .bool false, DI 0])] (.tup [.d (DI 3), .d (DI 0)]) := g.compR 1000 (by decide +kernel)
theorem ap11 : Fc E n_priority_Rank [.d (.agg [.list 4 [.str [104, 105, 115, 116, 111, 114, 105, 99], .list 2 [.str [104, 105, 115, 116, 111, 114, 105, 99], .str [61], DI 1, .str [114, 101, 116, 105, 109, 101, 100], .str [61], DI 0], .list 2 [.str [100, 97, 121, 115], .bool true, .str [115, 101, 97, 116, 115], .bool true], .str [114, 101, 116, 105, 109, 101, 100], .list 1 [.str [104, 105, 115, 116, 111, 114, 105, 99], .str [61], DI 1], .list 2 [.str [100, 97, 121, 115], .bool true, .str [115, 101, 97, 116, 115], .bool true], .str [121, 101, 97, 114, 114, 111, 117, 110, 100], .list 1 [.str [121, 101, 97, 114, 114, 111, 117, 110, 100], .str [61], DI 1], .list 3 [.str [100, 97, 121, 115], .bool true, .str [115, 101, 97, 116, 115], .bool true, .str [100, 105, 115, 116, 97, 110, 99, 101], .bool true], .str [111, 116, 104, 101, 114, 115], .list 0 [], .list 3 [.str [100, 97, 121, 115], .bool true, .str [115, 101, 97, 116, 115], .bool true, .str [100, 105, 115, 116, 97, 110, 99, 101], .bool true]], DI 2, DI 2, DI 1]), I 5, .d (.list 5 [.str [104], .str [97, 98], .str [65], .str [], .str [102, 97, 114], .str [], DI 8900, DI 8920, DI 5, DI 600, DI 90, DI 4, DI 0, .bool true, .bool false, .bool false, .bool false, DI 0, .str [99], .str [97, 98], .str [65], .str [], .str [102, 97, 114], .str [], DI 8900, DI 8920, DI 5, DI 600, DI 180, DI 4, DI 0, .bool false, .bool false, .bool false, .bool false, DI 0, .str [100], .str [97, 98], .str [65], .str [], .str [102, 97, 114], .str [], DI 8900, DI 8920, DI 5, DI 600, DI 150, DI 4, DI 0, .bool false, .bool false, .bool true, .bool false, DI 0, .str [98], .str [97, 98], .str [65], .str [], .str [102, 97, 114], .str [], DI 8900, DI 8920, DI 5, DI 600, DI 100, DI 4, DI 0, .bool false, .bool false, .bool true, .bool false, DI 0, .str [101], .str [97, 98], .str [65], .str [], .str [102, 97, 114], .str [], DI 8900, DI 8920, DI 5, DI 600, DI 90, DI 4, DI 0, .bool false, .bool false, .bool false, .bool false, DI 0])] (.tup [.d (.list 5 [DI 0, DI 2, DI 1, DI 3, DI 4]), .d (DI 0)]) := g.compR 1000 (by decide +kernel)
theorem ap12 : Fc E n_priority_Why [.d (.agg [.list 4 [.str [104, 105, 115, 116, 111, 114, 105, 99], .list 2 [.str [104, 105, 115, 116, 111, 114, 105, 99], .str [61], DI 1, .str [114, 101, 116, 105, 109, 101, 100], .str [61], DI 0], .list 2 [.str [100, 97, 121, 115], .bool true, .str [115, 101, 97, 116, 115], .bool true], .str [114, 101, 116, 105, 109, 101, 100], .list 1 [.str [104, 105, 115, 116, 111, 114, 105, 99], .str [61], DI 1], .list 2 [.str [100, 97, 121, 115], .bool true, .str [115, 101, 97, 116, 115], .bool true], .str [121, 101, 97, 114, 114, 111, 117, 110, 100], .list 1 [.str [121, 101, 97, 114, 114, 111, 117, 110, 100], .str [61], DI 1], .list 3 [.str [100, 97, 121, 115], .bool true, .str [115, 101, 97, 116, 115], .bool true, .str [100, 105, 115, 116, 97, 110, 99, 101], .bool true], .str [111, 116, 104, 101, 114, 115], .list 0 [], .list 3 [.str [100, 97, 121, 115], .bool true, .str [115, 101, 97, 116, 115], .bool true, .str [100, 105, 115, 116, 97, 110, 99, 101], .bool true]], DI 2, DI 2, DI 1]), I 5, .d (.list 5 [.str [104], .str [97, 98], .str [65], .str [], .str [102, 97, 114], .str [], DI 8900, DI 8920, DI 5, DI 600, DI 90, DI 4, DI 0, .bool true, .bool false, .bool false, .bool false, DI 0, .str [99], .str [97, 98], .str [65], .str [], .str [102, 97, 114], .str [], DI 8900, DI 8920, DI 5, DI 600, DI 180, DI 4, DI 0, .bool false, .bool false, .bool false, .bool false, DI 0, .str [100], .str [97, 98], .str [65], .str [], .str [102, 97, 114], .str [], DI 8900, DI 8920, DI 5, DI 600, DI 150, DI 4, DI 0, .bool false, .bool false, .bool true, .bool false, DI 0, .str [98], .str [97, 98], .str [65], .str [], .str [102, 97, 114], .str [], DI 8900, DI 8920, DI 5, DI 600, DI 100, DI 4, DI 0, .bool false, .bool false, .bool true, .bool false, DI 0, .str [101], .str [97, 98], .str [65], .str [], .str [102, 97, 114], .str [], DI 8900, DI 8920, DI 5, DI 600, DI 90, DI 4, DI 0, .bool false, .bool false, .bool false, .bool false, DI 0])] (.tup [.d (.list 4 [.str [99, 108, 97, 115, 115], .str [115, 104, 97, 114, 101], .str [115, 101, 97, 116, 115], .str [115, 101, 97, 116, 115]]), .d (DI 0)]) := g.compR 1000 (by decide +kernel)
theorem ap13 : Fc E n_law05_own [.d (.agg [.list 4 [.str [104, 105, 115, 116, 111, 114, 105, 99], .list 2 [.str [104, 105, 115, 116, 111, 114, 105, 99], .str [61], DI 1, .str [114, 101, 116, 105, 109, 101, 100], .str [61], DI 0], .list 2 [.str [100, 97, 121, 115], .bool true, .str [115, 101, 97, 116, 115], .bool true], .str [114, 101, 116, 105, 109, 101, 100], .list 1 [.str [104, 105, 115, 116, 111, 114, 105, 99], .str [61], DI 1], .list 2 [.str [100, 97, 121, 115], .bool true, .str [115, 101, 97, 116, 115], .bool true], .str [121, 101, 97, 114, 114, 111, 117, 110, 100], .list 1 [.str [121, 101, 97, 114, 114, 111, 117, 110, 100], .str [61], DI 1], .list 3 [.str [100, 97, 121, 115], .bool true, .str [115, 101, 97, 116, 115], .bool true, .str [100, 105, 115, 116, 97, 110, 99, 101], .bool true], .str [111, 116, 104, 101, 114, 115], .list 0 [], .list 3 [.str [100, 97, 121, 115], .bool true, .str [115, 101, 97, 116, 115], .bool true, .str [100, 105, 115, 116, 97, 110, 99, 101], .bool true]], DI 2, DI 2, DI 1])] (.d (.agg [.list 4 [.str [104, 105, 115, 116, 111, 114, 105, 99], .list 2 [.str [104, 105, 115, 116, 111, 114, 105, 99], .str [61], DI 1, .str [114, 101, 116, 105, 109, 101, 100], .str [61], DI 0], .list 2 [.str [100, 97, 121, 115], .bool true, .str [115, 101, 97, 116, 115], .bool true], .str [114, 101, 116, 105, 109, 101, 100], .list 1 [.str [104, 105, 115, 116, 111, 114, 105, 99], .str [61], DI 1], .list 2 [.str [100, 97, 121, 115], .bool true, .str [115, 101, 97, 116, 115], .bool true], .str [121, 101, 97, 114, 114, 111, 117, 110, 100], .list 1 [.str [121, 101, 97, 114, 114, 111, 117, 110, 100], .str [61], DI 1], .list 3 [.str [100, 97, 121, 115], .bool true, .str [115, 101, 97, 116, 115], .bool true, .str [100, 105, 115, 116, 97, 110, 99, 101], .bool true], .str [111, 116, 104, 101, 114, 115], .list 0 [], .list 3 [.str [100, 97, 121, 115], .bool true, .str [115, 101, 97, 116, 115], .bool true, .str [100, 105, 115, 116, 97, 110, 99, 101], .bool true]], DI 2, DI 2, DI 1])) := g.compR 1000 (by decide +kernel)
theorem ap14 : Fc E n_ref05_Same [.d (.agg [.list 4 [.str [104, 105, 115, 116, 111, 114, 105, 99], .list 2 [.str [104, 105, 115, 116, 111, 114, 105, 99], .str [61], DI 1, .str [114, 101, 116, 105, 109, 101, 100], .str [61], DI 0], .list 2 [.str [100, 97, 121, 115], .bool true, .str [115, 101, 97, 116, 115], .bool true], .str [114, 101, 116, 105, 109, 101, 100], .list 1 [.str [104, 105, 115, 116, 111, 114, 105, 99], .str [61], DI 1], .list 2 [.str [100, 97, 121, 115], .bool true, .str [115, 101, 97, 116, 115], .bool true], .str [121, 101, 97, 114, 114, 111, 117, 110, 100], .list 1 [.str [121, 101, 97, 114, 114, 111, 117, 110, 100], .str [61], DI 1], .list 3 [.str [100, 97, 121, 115], .bool true, .str [115, 101, 97, 116, 115], .bool true, .str [100, 105, 115, 116, 97, 110, 99, 101], .bool true], .str [111, 116, 104, 101, 114, 115], .list 0 [], .list 3 [.str [100, 97, 121, 115], .bool true, .str [115, 101, 97, 116, 115], .bool true, .str [100, 105, 115, 116, 97, 110, 99, 101], .bool true]], DI 2, DI 2, DI 1]), .d (.agg [.list 4 [.str [104, 105, 115, 116, 111, 114, 105, 99], .list 2 [.str [104, 105, 115, 116, 111, 114, 105, 99], .str [61], DI 1, .str [114, 101, 116, 105, 109, 101, 100], .str [61], DI 0], .list 2 [.str [100, 97, 121, 115], .bool true, .str [115, 101, 97, 116, 115], .bool true], .str [114, 101, 116, 105, 109, 101, 100], .list 1 [.str [104, 105, 115, 116, 111, 114, 105, 99], .str [61], DI 1], .list 2 [.str [100, 97, 121, 115], .bool true, .str [115, 101, 97, 116, 115], .bool true], .str [121, 101, 97, 114, 114, 111, 117, 110, 100], .list 1 [.str [121, 101, 97, 114, 114, 111, 117, 110, 100], .str [61], DI 1], .list 3 [.str [100, 97, 121, 115], .bool true, .str [115, 101, 97, 116, 115], .bool true, .str [100, 105, 115, 116, 97, 110, 99, 101], .bool true], .str [111, 116, 104, 101, 114, 115], .list 0 [], .list 3 [.str [100, 97, 121, 115], .bool true, .str [115, 101, 97, 116, 115], .bool true, .str [100, 105, 115, 116, 97, 110, 99, 101], .bool true]], DI 2, DI 2, DI 1])] (B true) := g.compR 1000 (by decide +kernel)
theorem ap15 : Fc E n_ref01_SameInts [.d (.list 5 [DI 0, DI 2, DI 1, DI 3, DI 4]), .d (.list 5 [DI 0, DI 2, DI 1, DI 3, DI 4])] (B true) := g.compR 1000 (by decide +kernel)
theorem ap16 : Fc E n_ref01_SameWords [.d (.list 4 [.str [99, 108, 97, 115, 115], .str [115, 104, 97, 114, 101], .str [115, 101, 97, 116, 115], .str [115, 101, 97, 116, 115]]), .d (.list 4 [.str [99, 108, 97, 115, 115], .str [115, 104, 97, 114, 101], .str [115, 101, 97, 116, 115], .str [115, 101, 97, 116, 115]])] (B true) := g.compR 1000 (by decide +kernel)
theorem ap17 : Fc E n_priority_Interleave [I 3, I 2, .d (.list 5 [.bool false, .bool true, .bool false, .bool true, .bool true])] (.tup [.d (.list 5 [DI 1, DI 3, DI 0, DI 4, DI 2]), .d (DI 0)]) := g.compR 1000 (by decide +kernel)
theorem ap18 : Fc E n_law05_sample [S [120], I 1] (.d (.agg [.str [120], .str [97, 98], .str [65], .str [], .str [102, 97, 114], .str [], DI 8900, DI 8920, DI 5, DI 600, DI 1, DI 4, DI 0, .bool false, .bool false, .bool false, .bool false, DI 0])) := g.compR 1000 (by decide +kernel)
theorem ap19 : Fc E n_law05_sample [S [121], I 1] (.d (.agg [.str [121], .str [97, 98], .str [65], .str [], .str [102, 97, 114], .str [], DI 8900, DI 8920, DI 5, DI 600, DI 1, DI 4, DI 0, .bool false, .bool false, .bool false, .bool false, DI 0])) := g.compR 1000 (by decide +kernel)
theorem ap20 : Fc E n_priority_Lots [I 2, .d (.list 2 [.str [120], .str [97, 98], .str [65], .str [], .str [102, 97, 114], .str [], DI 8900, DI 8920, DI 5, DI 600, DI 1, DI 4, DI 0, .bool false, .bool false, .bool false, .bool false, DI 0, .str [121], .str [97, 98], .str [65], .str [], .str [102, 97, 114], .str [], DI 8900, DI 8920, DI 5, DI 600, DI 1, DI 4, DI 0, .bool false, .bool false, .bool false, .bool false, DI 0])] (.tup [.d (.list 2 [DI 1, DI 0]), .d (DI 0)]) := g.compR 1000 (by decide +kernel)
theorem ap21 : Fc E n_priority_Parse [S [99, 108, 97, 115, 115, 32, 97, 32, 98, 121, 32, 115, 101, 97, 116, 115, 10]] (.tup [.d (.agg [.list 0 [], DI 0, DI 0, DI 0]), .d (DI 0), .d (DI 25)]) := g.compR 1000 (by decide +kernel)
theorem ap22 : Fc E n_priority_Parse [S [99, 108, 97, 115, 115, 32, 97, 32, 98, 121, 32, 115, 101, 97, 116, 115, 45, 10]] (.tup [.d (.agg [.list 0 [], DI 0, DI 0, DI 0]), .d (DI 1), .d (DI 28)]) := g.compR 1000 (by decide +kernel)
theorem ap23 : Fc E n_priority_Fact [.d (.agg [.str [99], .str [97, 98], .str [65], .str [], .str [102, 97, 114], .str [], DI 8900, DI 8920, DI 5, DI 600, DI 180, DI 4, DI 0, .bool false, .bool false, .bool false, .bool false, DI 0]), S [100, 97, 121, 115]] (.tup [.d (DI 6), .d (DI 0)]) := g.compR 1000 (by decide +kernel)
theorem ap24 : Fc E n_priority_Newcomer [S [97, 98], I 8900, .d (.list 0 [])] (.tup [.d (.bool true), .d (DI 0)]) := g.compR 1000 (by decide +kernel)
theorem ap25 : Fc E n_ref01_SameInts [.d (.list 5 [DI 1, DI 3, DI 0, DI 4, DI 2]), .d (.list 5 [DI 1, DI 3, DI 0, DI 4, DI 2])] (B true) := g.compR 1000 (by decide +kernel)
theorem ap26 : Fc E n_ref01_SameInts [.d (.list 2 [DI 1, DI 0]), .d (.list 2 [DI 1, DI 0])] (B true) := g.compR 1000 (by decide +kernel)
theorem ap27 : Fc E n_ref01_DaysOf [.d (.agg [DI 8900, DI 8920, DI 5])] (.d (.list 6 [DI 8901, DI 8906, DI 8908, DI 8913, DI 8915, DI 8920])) := g.compR 1000 (by decide +kernel)
set_option maxHeartbeats 4000000 in
theorem s_awake : Fc E n_law05_awake [] (B true) := by
 refine g.fn rfl rfl ?_
 repeat' ((conv => whnf); first
 | refine Yz ?_
  | (apply CallI.of; first | exact ap1 g | exact ap2 g | exact ap3 g | exact ap4 g | exact ap5 g | exact ap6 g | exact ap7 g | exact ap8 g | exact ap9 g | exact ap10 g | exact ap11 g | exact ap12 g | exact ap13 g | exact ap14 g | exact ap15 g | exact ap16 g | exact ap17 g | exact ap18 g | exact ap19 g | exact ap20 g | exact ap21 g | exact ap22 g | exact ap23 g | exact ap24 g | exact ap25 g | exact ap26 g | exact ap27 g)
  | (refine Need.mk (by simp only [maxStr, List.length_cons, List.length_nil, List.length_append]; omega) ?_)
  | (exact Ret.mk rfl))
end
end Go.Proofs.YthmfkkpmjcbgeaaGreatDoor.Co
/-
 PriorityBack returns true, for every program, text and number.
-/
namespace Go.Proofs.YthmfkkpmjcbgeaaGreatDoor.Co
open Go Go.Evl
set_option maxRecDepth 100000
section
variable {E : Oracle} (g : Good E)
include g
set_option maxHeartbeats 8000000 in
theorem w_PriorityBack (p : Prg) (s : List UInt8) (cut : Int) (hp : BigP p) (hcut : 0 ≤ cut ∧ cut ≤ 65535) : Fc E n_law05_PriorityBack [Pgv p, S s, .d (.int .u16 cut)] (B true) := by
 have aw := s_awake g
 have h0 := r_ShortP g p hp
 cases hs : shortP p
 ·rw [hs] at h0
  refine g.fn rfl rfl ?_
  repeat' ((conv => whnf); first
  | refine Yz ?_
   | (apply CallI.of; assumption)
   | (refine Ret.mk rfl))
 ·have sm := shortP_small hs
  rw [hs] at h0
  by_cases hl : 1500 < s.length
  ·refine g.fn rfl rfl ?_
   repeat' ((conv => whnf); first
   | refine Yz ?_
    | (apply CallI.of; assumption)
    | (refine Ret.mk rfl))
  ·have p1 := s_Parse5 g s (by omega)
   have c2 := r_CheckProgram g p sm
   obtain ⟨t1, ht1, hpr⟩ : ∃ t1 : V, ((rdP s).2.2 = 0 → t1 = .tup [S s, I 0]) ∧ ((rdP s).2.2 = 0 → Fc E n_priority_Print [Pgv (rdP s).1] t1) := by
    by_cases h : (rdP s).2.2 = 0
    ·have ht := rdP_text h
     have := s_Print g (rdP s).1 ht.2.1
     rw [ht.2.2] at this
     exact ⟨_, fun _ => rfl, fun _ => this⟩
    ·exact ⟨.undef, fun h' => absurd h' h, fun h' => absurd h' h⟩
   generalize rdP s = R at *
   by_cases hz : chkPg p = 0
   ·obtain ⟨n1, n2⟩ := prgL_len hz hs
    have w := w_program g p sm
    have q1 := s_Print g p hz
    have q2 := s_Parse5 g (prgL p) (by omega)
    rw [rdP_of hz n2] at q2
    have o1 := w_own g p sm
    have o2 := r_SameP g p sm
    rw [hz] at c2
    have hr : 0 ≤ cut % ((prgL p).length : Int) ∧ cut % ((prgL p).length : Int) < (prgL p).length := ⟨Int.emod_nonneg _ (by omega), Int.emod_lt_of_pos _ (by omega)⟩
    obtain ⟨y, i, e, he, q3⟩ : ∃ (y : Prg) (i : Nat) (e : Int), e ≠ 0 ∧ Fc E n_priority_Parse [S (win (prgL p) 0 ((cut % ((prgL p).length : Int)).toNat - 0))] (.tup [Pgv y, I i, I e]) := by
     have hk : (cut % ((prgL p).length : Int)).toNat < (prgL p).length := by omega
     have hw : win (prgL p) 0 ((cut % ((prgL p).length : Int)).toNat - 0) = (prgL p).take (cut % ((prgL p).length : Int)).toNat := by simp [win]
     rw [hw]
     exact ⟨_, _, _, rdP_part hz n2 hk, s_Parse5 g _ (by rw [List.length_take]; omega)⟩
    generalize prgL p = t at *
    refine g.fn rfl rfl ?_
    by_cases h : R.2.2 = 0
    ·obtain rfl := ht1 h
     have hpr := hpr h
     repeat' ((conv => whnf); first
     | refine Yz ?_
      | (apply CallI.of; first | exact h0 | exact p1 | exact c2 | exact hpr | exact w | exact q1 | exact q2 | exact o1 | exact o2 | exact q3 | exact aw)
      | (refine Bounds.at 0 ((cut % (t.length : Int)).toNat) (by omega) (by omega) (by omega) ?_)
      | (refine Cmp.tt h ?_)
      | (refine Cmp.tt rfl ?_)
      | (refine Cmp.ff he ?_)
      | (refine Ret.mk rfl))
    ·repeat' ((conv => whnf); first
    | refine Yz ?_
      | (apply CallI.of; first | exact h0 | exact p1 | exact c2 | exact w | exact q1 | exact q2 | exact o1 | exact o2 | exact q3 | exact aw)
      | (refine Bounds.at 0 ((cut % (t.length : Int)).toNat) (by omega) (by omega) (by omega) ?_)
      | (refine Cmp.ff h ?_)
      | (refine Cmp.tt rfl ?_)
      | (refine Cmp.ff he ?_)
      | (refine Ret.mk rfl))
   ·refine g.fn rfl rfl ?_
    by_cases h : R.2.2 = 0
    ·obtain rfl := ht1 h
     have hpr := hpr h
     repeat' ((conv => whnf); first
     | refine Yz ?_
      | (apply CallI.of; first | exact h0 | exact p1 | exact c2 | exact hpr | exact aw)
      | (refine Cmp.tt h ?_)
      | (refine Cmp.ff hz ?_)
      | (refine Cmp.tt rfl ?_)
      | (refine Ret.mk rfl))
    ·repeat' ((conv => whnf); first
    | refine Yz ?_
      | (apply CallI.of; first | exact h0 | exact p1 | exact c2 | exact aw)
      | (refine Cmp.ff h ?_)
      | (refine Cmp.ff hz ?_)
      | (refine Cmp.tt rfl ?_)
      | (refine Ret.mk rfl))
end
theorem s_PriorityBack {E : Oracle} (g : Good E) {xs : List D} (h : fitArgs Tryz.prog [31, 9, 37] xs) : Fc E n_law05_PriorityBack (asV xs) (B true) := by
 obtain ⟨x, y, z, rfl, h1, h2, h3⟩ := args3 h
 obtain ⟨p, rfl, hp⟩ := arg_Program h1
 obtain ⟨s, rfl, _⟩ := arg_s Tryz.underlying9 h2
 obtain ⟨c, rfl, hw⟩ := arg_i Tryz.underlying37 h3
 simp only [Lit.wf, Bool.and_eq_true, decide_eq_true_eq] at hw
 exact w_PriorityBack g p s c hp hw
end Go.Proofs.YthmfkkpmjcbgeaaGreatDoor.Co
