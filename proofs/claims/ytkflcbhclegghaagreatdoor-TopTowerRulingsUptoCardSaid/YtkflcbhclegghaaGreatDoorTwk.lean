/-
  TopTowerRulings: what its law leans on, part 11.
-/
import Derived.Laws.RangeAny
import Derived.Lib.SplitLaws
import Derived.Test.YtkflcbhclegghaaGreatDoorEvX
import Derived.Test.YtkflcbhclegghaaGreatDoorEvY
import Derived.Test.YtkflcbhclegghaaGreatDoorRead
import Derived.Test.YtkflcbhclegghaaGreatDoorSpBase
import Derived.Test.YtkflcbhclegghaaGreatDoorTwj
namespace Go.Proofs.YtkflcbhclegghaaGreatDoor.Co
open Go Go.Evl
def yvl:Mem->Mem->Bool
 |[],[]=>true
 |(i,o)::r,(j,o')::q=>decide (i=j)&&(match o,o' with
  |.cells t cs,.cells u ds=>decide (t=u)&&z0c cs ds
  |.row w t sz n xs,.row w' t' sz' n' ys=>decide (w=w')&&decide (t=t')&&decide (sz=sz')&&decide (n=n')&&zl6 xs ys
  |_,_=>false)&&yvl r q
 |_,_=>false
theorem yfw:∀(a b:Mem),yvl a b=true->a=b
 |[],[],_=>rfl
 |[],_::_,h=>by simp[yvl]at h
 |_::_,[],h=>by simp[yvl]at h
 |(i,o)::r,(j,o')::q,h=>by
  simp only[yvl,Bool.and_eq_true,decide_eq_true_eq]at h;obtain⟨⟨rfl,h1⟩,h2⟩:=h;rw[yfw r q h2]
  split at h1
  ·simp only[Bool.and_eq_true,decide_eq_true_eq]at h1;obtain⟨rfl,h1⟩:=h1;rw[zn6 _ _ h1]
  ·simp only[Bool.and_eq_true,decide_eq_true_eq]at h1;obtain⟨⟨⟨⟨rfl,rfl⟩,rfl⟩,rfl⟩,h1⟩:=h1;rw[zgc _ _ h1]
  cases h1
def yxq(o:Option (V×Mem))(v:V)(m:Mem):Bool:=
 match o with
 |some (v',m')=>zsj v' v&&yvl m' m
 |none=>false
def yxp(cx:Cx)(slot:Nat)(m:Mem)(o:Option Res)(v:V)(m2:Mem):Bool:=
 match o with
 |some (.val v' m')=>(match Evl.settle cx slot 0 m m' v' with
  |some p=>zsj p.1 v&&yvl p.2 m2
  |none=>false)
 |_=>false
section
variable{E:Oracle}(g:Good E)
include g
theorem yw9(n:Nat){imm:Bool}{f:V}{args:List V}{m m2:Mem}{v:V}{K:V->Mem->Prop}(h:yxq (zt2 (iter code ext n) imm f args m) v m2=true)(hK:K v m2):zuu E imm f args m K:=by
 have hc:ybc (λ_=>E) E:=⟨λ_ _ _ h=>h,λ_ _=>⟨λh=>⟨0,h⟩,λh=>h.elim λ_ h=>h⟩⟩;cases hr:zt2 (iter code ext n) imm f args m with
 |none=>rw[hr]at h;cases h
 |some p=>
  rw[hr]at h;simp only[yxq,Bool.and_eq_true]at h;obtain⟨h1,h2⟩:=h;have:=(z3z hc imm f args m).mono _ _ (λq r=>g.lim.of_iter n q r) p hr;exact⟨p.1,p.2,this,by rw[zt8 _ _ h1,yfw _ _ h2];exact hK⟩
theorem yu0(n:Nat){f slot:Nat}{cx:Cx}{args:List V}{m m2:Mem}{v:V}{K:V->Mem->Prop}(h:yxp cx slot m (iter code ext n (.call 0 f args [])) v m2=true)(hK:K v m2):zd5 E f args cx slot m K:=by
 cases hr:iter code ext n (.call 0 f args [])with
 |none=>rw[hr]at h;cases h
 |some x=>
  rw[hr]at h;cases x with
  |st _ _ _=>cases h
  |val v1 m1=>
   simp only[yxp]at h
   split at h
   ·rename_i p hp;simp only[Bool.and_eq_true]at h;obtain⟨h1,h2⟩:=h;refine⟨_,_,p,g.lim.of_iter n _ _ hr,hp,?_⟩;rw[zt8 _ _ h1,yfw _ _ h2];exact hK
   cases h
set_option maxRecDepth 100000
theorem at1:Fc E znk [] (.d (.agg [.str [115,105,120],.str [84],.str [],DI 60,DI 60,DI 600,DI 600,DI 2,DI 3,DI 127,DI 1])):=g.compR 1000 (by decide+kernel)
theorem at2:Fc E zls [S [97],I 100] (.d (.agg [.str [97],.str [99],.str [65],.str [],.str [102,97,114],.str [],DI 2,DI 3,DI 127,DI 610,DI 100,DI 3,DI 0])):=g.compR 1000 (by decide+kernel)
theorem at3:Fc E zi5 [.d (.agg [.str [97],.str [99],.str [65],.str [],.str [102,97,114],.str [],DI 2,DI 3,DI 127,DI 610,DI 100,DI 3,DI 0])] (.d (.agg [.str [97],.str [99],.str [65],.str [],.str [102,97,114],.str [],DI 2,DI 3,DI 127,DI 610,DI 100,DI 3,DI 0,DI 590,DI 630,DI 20,DI 0,DI 0])):=g.compR 1000 (by decide+kernel)
theorem at4:Fc E zd3 [.d (.list 1 [.str [115,105,120],.str [84],.str [],DI 60,DI 60,DI 600,DI 600,DI 2,DI 3,DI 127,DI 1]),.d (.list 1 [.str [97],.str [99],.str [65],.str [],.str [102,97,114],.str [],DI 2,DI 3,DI 127,DI 610,DI 100,DI 3,DI 0,DI 590,DI 630,DI 20,DI 0,DI 0])] (.tup [.d (.list 1 [.str [97],DI 610,.bool true]),.d (DI 0)]):=g.compR 1000 (by decide+kernel)
theorem at6:Fc E zhd [I 610] (S [54,49,48]):=g.compR 1000 (by decide+kernel)
end
abbrev mw0:Mem:=[(⟨0,37,0⟩,.cells zfd [.ref ⟨0,37,1⟩ 0 1 1,.d (DI 5),.ref ⟨0,37,2⟩ 0 1 1,.ref ⟨0,37,3⟩ 0 0 0,.ref ⟨0,37,4⟩ 0 0 0]),(⟨0,37,1⟩,.row false zao 5 1 [DI 1,.str [101,110,116,101,114],.list 2 [.str [101],.str [97]],.list 4 [DI 5,DI 2,DI 3,DI 610],.str []]),(⟨0,37,2⟩,.row false zag 8 1 [.str [101],.str [101,110,116,101,114],.str [97],.str [],DI 5,DI 2,DI 3,DI 610]),(⟨0,37,3⟩,.row false zby 2 0 []),(⟨0,37,4⟩,.row true zan 5 0 [])]
abbrev mw1:Mem:=[(⟨0,37,0⟩,.cells zfd [.ref ⟨0,37,1⟩ 0 0 0,.d (DI 0),.ref ⟨0,37,2⟩ 0 0 0,.ref ⟨0,37,3⟩ 0 0 0,.ref ⟨0,37,4⟩ 0 0 0]),(⟨0,37,1⟩,.row false zao 5 0 []),(⟨0,37,2⟩,.row false zag 8 0 []),(⟨0,37,3⟩,.row false zby 2 0 []),(⟨0,37,4⟩,.row true zan 5 0 [])]
abbrev mw2:Mem:=[(⟨0,37,0⟩,.cells zfd [.ref ⟨0,37,1⟩ 0 2 2,.d (DI 8),.ref ⟨0,37,2⟩ 0 2 2,.ref ⟨0,37,3⟩ 0 0 0,.ref ⟨0,37,4⟩ 0 0 0]),(⟨0,37,1⟩,.row false zao 5 2 [DI 1,.str [101,110,116,101,114],.list 2 [.str [101],.str [97]],.list 4 [DI 5,DI 2,DI 3,DI 610],.str [],DI 2,.str [114,117,108,101],.list 2 [.str [114],.str [97]],.list 4 [DI 8,DI 2,DI 3,DI 1440],.str []]),(⟨0,37,2⟩,.row false zag 8 2 [.str [101],.str [101,110,116,101,114],.str [97],.str [],DI 5,DI 2,DI 3,DI 610,.str [114],.str [114,117,108,101],.str [97],.str [],DI 8,DI 2,DI 3,DI 1440]),(⟨0,37,3⟩,.row false zby 2 0 []),(⟨0,37,4⟩,.row true zan 5 0 [])]
abbrev mw3:Mem:=[(⟨0,37,0⟩,.cells zfd [.ref ⟨0,37,1⟩ 0 3 3,.d (DI 9),.ref ⟨0,37,2⟩ 0 2 2,.ref ⟨0,37,3⟩ 0 1 1,.ref ⟨0,37,4⟩ 0 0 0]),(⟨0,37,1⟩,.row false zao 5 3 [DI 1,.str [101,110,116,101,114],.list 2 [.str [101],.str [97]],.list 4 [DI 5,DI 2,DI 3,DI 610],.str [],DI 2,.str [114,117,108,101],.list 2 [.str [114],.str [97]],.list 4 [DI 8,DI 2,DI 3,DI 1440],.str [],DI 3,.str [114,101,118,101,114,115,101],.list 1 [.str [114]],.list 1 [DI 9],.str []]),(⟨0,37,2⟩,.row false zag 8 2 [.str [101],.str [101,110,116,101,114],.str [97],.str [],DI 5,DI 2,DI 3,DI 610,.str [114],.str [114,117,108,101],.str [97],.str [],DI 8,DI 2,DI 3,DI 1440]),(⟨0,37,3⟩,.row false zby 2 1 [.str [114],DI 9]),(⟨0,37,4⟩,.row true zan 5 0 [])]
section
variable{E:Oracle}(g:Good E)
include g
set_option maxRecDepth 100000
theorem is0{K:V->Mem->Prop}(h:K (.ptr ⟨0,37,0⟩ 0 0) [(⟨0,37,0⟩,.cells zfd [.ref ⟨0,37,1⟩ 0 0 0,.d (DI 0),.ref ⟨0,37,2⟩ 0 0 0,.ref ⟨0,37,3⟩ 0 0 0,.ref ⟨0,37,4⟩ 0 0 0]),(⟨0,37,1⟩,.row false zao 5 0 []),(⟨0,37,2⟩,.row false zag 8 0 []),(⟨0,37,3⟩,.row false zby 2 0 []),(⟨0,37,4⟩,.row true zan 5 0 [])]):zd5 E zuf [] ⟨0,1⟩ 37 [] K:=yu0 g 1000 (by decide+kernel) h
theorem is1{K:V->Mem->Prop}(h:K (.tup [.d (.str [100,111,110,101,32,49]),.d (DI 0)]) mw0):zuu E true (.fn zbo [] []) [.ptr ⟨0,37,0⟩ 0 0,.d (.str [101,110,116,101,114,32,101,32,97,32,53,32,50,32,51,32,54,49,48])] mw1 K:=yw9 g 1000 (by decide+kernel) h
theorem is2{K:V->Mem->Prop}(h:K (.tup [.d (.str [100,111,110,101,32,50]),.d (DI 0)]) mw2):zuu E true (.fn zbo [] []) [.ptr ⟨0,37,0⟩ 0 0,.d (.str [114,117,108,101,32,114,32,97,32,56,32,50,32,51,32,49,52,52,48])] mw0 K:=yw9 g 1000 (by decide+kernel) h
theorem is3{K:V->Mem->Prop}(h:K (.tup [.d (.str [100,111,110,101,32,51]),.d (DI 0)]) mw3):zuu E true (.fn zbo [] []) [.ptr ⟨0,37,0⟩ 0 0,.d (.str [114,101,118,101,114,115,101,32,114,32,57])] mw2 K:=yw9 g 1000 (by decide+kernel) h
theorem is4{K:V->Mem->Prop}(h:K (.tup [.d (.str [54,49,48]),.d (DI 0)]) mw3):zuu E true (.fn zbo [] []) [.ptr ⟨0,37,0⟩ 0 0,.d (.str [115,108,111,116,32,97,32,55,32,50])] mw3 K:=yw9 g 1000 (by decide+kernel) h
theorem is5{K:V->Mem->Prop}(h:K (.tup [.d (.str [110,111,110,101]),.d (DI 0)]) mw3):zuu E true (.fn zbo [] []) [.ptr ⟨0,37,0⟩ 0 0,.d (.str [115,108,111,116,32,97,32,56,32,50])] mw3 K:=yw9 g 1000 (by decide+kernel) h
theorem is6{K:V->Mem->Prop}(h:K (.tup [.d (.str [54,49,48]),.d (DI 0)]) mw3):zuu E true (.fn zbo [] []) [.ptr ⟨0,37,0⟩ 0 0,.d (.str [115,108,111,116,32,97,32,57,32,50])] mw3 K:=yw9 g 1000 (by decide+kernel) h
end
end Go.Proofs.YtkflcbhclegghaaGreatDoor.Co
