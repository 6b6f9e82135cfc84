
/-
 The function that compares windows, by an oracle zdk functions that are given whole; the order that it makes.
-/
import Derived.Test.YtkflcbhclegghaaGreatDoorSf0
import Derived.Test.YtkflcbhclegghaaGreatDoorEvWn
namespace Go.Proofs.YtkflcbhclegghaaGreatDoor.Co
open Go Go.Evl
section
variable{E:Oracle}(g:ymm E)
include g
theorem yz8(a b:Int):Fc E zha [.d (.list 2 [DI a,DI b])] (I (if a≠0 then a else b)):=by
 refine g.fn rfl rfl ?_
 by_cases h1:a=0
 ·rw[if_neg (λh=>h h1)]
  by_cases h2:b=0
  ·subst h2
   repeat'((conv=>whnf);first|refine Yz ?_|refine Cmp.ff (λh=>h h1) ?_|refine zab.step g.lim ?_|refine Ret.mk rfl|fail)
  ·repeat'((conv=>whnf);first|refine Yz ?_|refine Cmp.ff (λh=>h h1) ?_|refine Cmp.tt h2 ?_|refine zab.step g.lim ?_|refine Ret.mk rfl|fail)
 rw[if_pos h1]
 repeat'((conv=>whnf);first|refine Yz ?_|refine Cmp.tt h1 ?_|refine zab.step g.lim ?_|refine Ret.mk rfl|fail)
theorem yy1(a b:Int×Int):Fc E n_allocate_board_refusing_1 [.d (.agg (wndC a)),.d (.agg (wndC b))] (I (cfW a b)):=by
 have h1:=yum g a.1 b.1;have h2:=yum g a.2 b.2;have h4:=yz8 g (ye5 a.1 b.1) (ye5 a.2 b.2);refine g.fn rfl rfl ?_;unfold cfW
 repeat'((conv=>whnf);first|refine Yz ?_|(apply zaf.of;assumption)|refine Ret.mk rfl|fail)
end
theorem clos_W(x y:Int×Int):∃n v m',iter code (λ_=>none) n (.call 0 n_allocate_board_refusing_1 [.d (.agg (wndC x)),.d (.agg (wndC y))] [])=some (.val v m')/\Go.Evl.freeze true m' v=some (.int .i64 (cfW x y)):=by
 obtain⟨E,g⟩:=ycc;obtain⟨v,m',h1,h2⟩:=yy1 g x y;obtain⟨n,hn⟩:=g.lim.reach _ _ h1;refine⟨n,v,m',hn,?_⟩;unfold Go.Evl.thaw at h2
 split at h2
 ·simp only[Option.map_eq_some_iff]at h2;obtain⟨_,_,h⟩:=h2;cases h
 simp only[Option.map_eq_some_iff]at h2;obtain⟨d,h3,h4⟩:=h2;cases h4;exact h3
theorem ye2(a b:Int×Int):decide (cfW a b<0)=true↔a.1<b.1\/(a.1=b.1/\a.2<b.2):=by
 unfold cfW;rw[decide_eq_true_eq]
 by_cases h1:ye5 a.1 b.1=0
 ·rw[if_neg (λh=>h h1),ym9];have e1:=(yb0 _ _).1 h1;simp[e1]
 rw[if_pos h1,ym9];have e1:a.1≠b.1:=λh=>h1 ((yb0 _ _).2 h)
 simp[e1]
theorem swo_W:Go.Sort.SWO (λa b:Int×Int=>decide (cfW a b<0)):=by
 refine⟨λx=>?_,λx y z h1 h2=>?_,λx y z h1 h2=>?_⟩
 ·refine Bool.eq_false_iff.2 λh=>?_
  rw[ye2]at h;omega
 ·rw[ye2]at h1 h2⊢;omega
 have n1:¬decide (cfW x y<0)=true:=by simp[h1]
 have n2:¬decide (cfW y z<0)=true:=by simp[h2]
 refine Bool.eq_false_iff.2 λh=>?_
 rw[ye2]at n1 n2 h;omega
end Go.Proofs.YtkflcbhclegghaaGreatDoor.Co
