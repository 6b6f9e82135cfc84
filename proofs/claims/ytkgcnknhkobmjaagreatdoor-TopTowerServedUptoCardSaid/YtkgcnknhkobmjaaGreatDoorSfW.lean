
/-
 The function that compares windows, by an oracle zdb functions that are given whole; the order that it makes.
-/
import Derived.Test.YtkgcnknhkobmjaaGreatDoorSf0
import Derived.Test.YtkgcnknhkobmjaaGreatDoorEvWn
namespace Go.Proofs.YtkgcnknhkobmjaaGreatDoor.Co
open Go Go.Evl
section
variable {E : Oracle} (g : yi7 E)
include g
theorem yvn (a b:Int):Fc E zi1 [.d (.list 2 [DI a,DI b])] (I (if a≠0 then a else b)):=by
 refine g.fn rfl rfl ?_
 by_cases h1:a=0
 ·rw [if_neg (fun h=>h h1)]
  by_cases h2:b=0
  ·subst h2
   repeat' ((conv=>whnf);first
   | refine Yz ?_
    | (refine Cmp.ff (fun h=>h h1) ?_)
    | (refine zaf.step g.lim ?_)
    | (refine Ret.mk rfl)
    | fail)
  ·repeat' ((conv=>whnf);first
  | refine Yz ?_
    | (refine Cmp.ff (fun h=>h h1) ?_)
    | (refine Cmp.tt h2 ?_)
    | (refine zaf.step g.lim ?_)
    | (refine Ret.mk rfl)
    | fail)
 ·rw [if_pos h1]
  repeat' ((conv=>whnf);first
  | refine Yz ?_
   | (refine Cmp.tt h1 ?_)
   | (refine zaf.step g.lim ?_)
   | (refine Ret.mk rfl)
   | fail)
theorem yuk (a b:Int×Int):Fc E n_allocate_board_refusing_1 [.d (.agg (wndC a)),.d (.agg (wndC b))] (I (cfW a b)):=by
 have h1:=yqs g a.1 b.1
 have h2:=yqs g a.2 b.2
 have h4:=yvn g (yb7 a.1 b.1) (yb7 a.2 b.2)
 refine g.fn rfl rfl ?_
 unfold cfW
 repeat' ((conv=>whnf);first
 | refine Yz ?_
  | (apply zae.of;assumption)
  | (refine Ret.mk rfl)
  | fail)
end
theorem clos_W (x y:Int×Int):∃n v m',iter code (fun _=>none) n (.call 0 n_allocate_board_refusing_1 [.d (.agg (wndC x)),.d (.agg (wndC y))] [])=some (.val v m')/\Go.Evl.freeze true m' v=some (.int .i64 (cfW x y)):=by
 obtain⟨E,g⟩:=z9n
 obtain⟨v,m',h1,h2⟩:=yuk g x y
 obtain⟨n,hn⟩:=g.lim.reach _ _ h1
 refine⟨n,v,m',hn,?_⟩
 unfold Go.Evl.thaw at h2
 split at h2
 ·simp only [Option.map_eq_some_iff] at h2
  obtain⟨_,_,h⟩:=h2
  cases h
 ·simp only [Option.map_eq_some_iff] at h2
  obtain⟨d,h3,h4⟩:=h2
  cases h4
  exact h3
theorem yb2 (a b:Int×Int):decide (cfW a b<0)=true↔a.1<b.1\/(a.1=b.1/\a.2<b.2):=by
 unfold cfW
 rw [decide_eq_true_eq]
 by_cases h1:yb7 a.1 b.1=0
 ·rw [if_neg (fun h=>h h1),yju]
  have e1:=(z9c _ _).1 h1
  simp [e1]
 ·rw [if_pos h1,yju]
  have e1:a.1≠b.1:=fun h=>h1 ((z9c _ _).2 h)
  simp [e1]
theorem swo_W:Go.Sort.SWO (fun a b:Int×Int=>decide (cfW a b<0)):=by
 refine⟨fun x=> ?_,fun x y z h1 h2=> ?_,fun x y z h1 h2=> ?_⟩
 ·refine Bool.eq_false_iff.2 fun h=> ?_
  rw [yb2] at h
  omega
 ·rw [yb2] at h1 h2 ⊢
  omega
 ·have n1:¬decide (cfW x y<0)=true:=by simp [h1]
  have n2:¬decide (cfW y z<0)=true:=by simp [h2]
  refine Bool.eq_false_iff.2 fun h=> ?_
  rw [yb2] at n1 n2 h
  omega
end Go.Proofs.YtkgcnknhkobmjaaGreatDoor.Co
