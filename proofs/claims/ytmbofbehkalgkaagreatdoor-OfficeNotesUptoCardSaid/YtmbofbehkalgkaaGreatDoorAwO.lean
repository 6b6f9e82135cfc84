
/-
 The fixed example of chapter 10's laws, its first calls: each computed by the kernel.
-/
import Derived.Test.YtmbofbehkalgkaaGreatDoorSpBase
namespace Go.Proofs.YtmbofbehkalgkaaGreatDoor.Co
open Go Go.Evl
def yka:Mem->Mem->Bool
 | [],[]=>true
 | (i,o)::r,(j,o')::q=>decide (i=j)&&(match o,o' with
  | .cells t cs,.cells u ds=>decide (t=u)&&zte cs ds
  | .row w t sz n xs,.row w' t' sz' n' ys=>decide (w=w')&&decide (t=t')&&decide (sz=sz')&&decide (n=n')&&zhw xs ys
  | _,_=>false)&&yka r q
 | _,_=>false
theorem z69:∀(a b:Mem),yka a b=true->a=b
 | [],[],_=>rfl
 | [],_::_,h=>by simp [yka] at h
 | _::_,[],h=>by simp [yka] at h
 | (i,o)::r,(j,o')::q,h=>by
  simp only [yka,Bool.and_eq_true,decide_eq_true_eq] at h
  obtain⟨⟨rfl,h1⟩,h2⟩:=h
  rw [z69 r q h2]
  split at h1
  ·simp only [Bool.and_eq_true,decide_eq_true_eq] at h1
   obtain⟨rfl,h1⟩:=h1
   rw [zjk _ _ h1]
  ·simp only [Bool.and_eq_true,decide_eq_true_eq] at h1
   obtain⟨⟨⟨⟨rfl,rfl⟩,rfl⟩,rfl⟩,h1⟩:=h1
   rw [zd4 _ _ h1]
  ·cases h1
def yl2 (o:Option (V×Mem)) (v:V) (m:Mem):Bool:=
 match o with
 | some (v',m')=>zk8 v' v&&yka m' m
 | none=>false
def yl1 (cx:Cx) (slot:Nat) (m:Mem) (o:Option Res) (v:V) (m2:Mem):Bool:=
 match o with
 | some (.val v' m')=>(match Evl.settle cx slot 0 m m' v' with
  | some p=>zk8 p.1 v&&yka p.2 m2
  | none=>false)
 | _=>false
section
variable {E : Oracle} (g : Good E)
include g
theorem ygb (n:Nat) {imm:Bool} {f:V} {args:List V} {m m2:Mem} {v:V} {K:V->Mem->Prop} (h:yl2 (ztu (iter code ext n) imm f args m) v m2=true) (hK:K v m2):ya1 E imm f args m K:=by
 have hc:z2s (fun _=>E) E:=⟨fun _ _ _ h=>h,fun _ _=>⟨fun h=>⟨0,h⟩,fun h=>h.elim fun _ h=>h⟩⟩
 cases hr:ztu (iter code ext n) imm f args m with
 | none=>rw [hr] at h;cases h
 | some p=>
  rw [hr] at h
  simp only [yl2,Bool.and_eq_true] at h
  obtain⟨h1,h2⟩:=h
  have:=(zwm hc imm f args m).mono _ _ (fun q r=>g.lim.of_iter n q r) p hr
  exact⟨p.1,p.2,this,by rw [znp _ _ h1,z69 _ _ h2];exact hK⟩
theorem yjm (n:Nat) {f slot:Nat} {cx:Cx} {args:List V} {m m2:Mem} {v:V} {K:V->Mem->Prop} (h:yl1 cx slot m (iter code ext n (.call 0 f args [])) v m2=true) (hK:K v m2):zej E f args cx slot m K:=by
 cases hr:iter code ext n (.call 0 f args []) with
 | none=>rw [hr] at h;cases h
 | some x=>
  rw [hr] at h
  cases x with
  | st _ _ _=>cases h
  | val v1 m1=>
   simp only [yl1] at h
   split at h
   ·rename_i p hp
    simp only [Bool.and_eq_true] at h
    obtain⟨h1,h2⟩:=h
    refine⟨_,_,p,g.lim.of_iter n _ _ hr,hp,?_⟩
    rw [znp _ _ h1,z69 _ _ h2];exact hK
   ·cases h
set_option maxRecDepth 100000
theorem ao1:Fc E zla [] (.d (.list 4 [DI 1,.str [101,110,116,101,114],.list 2 [.str [101],.str [97]],.list 4 [DI 5,DI 10,DI 20,DI 600],.str [],DI 2,.str [114,117,108,101],.list 2 [.str [114],.str [97]],.list 4 [DI 7,DI 15,DI 20,DI 660],.str [],DI 3,.str [102,111,108,108,111,119],.list 3 [.str [102],.str [98],.str [114]],.list 4 [DI 8,DI 15,DI 20,DI 700],.str [],DI 4,.str [114,101,118,101,114,115,101],.list 1 [.str [114]],.list 1 [DI 9],.str []])):=g.compR 1000 (by decide+kernel)
theorem ao2:Fc E zcn [.d (.list 4 [DI 1,.str [101,110,116,101,114],.list 2 [.str [101],.str [97]],.list 4 [DI 5,DI 10,DI 20,DI 600],.str [],DI 2,.str [114,117,108,101],.list 2 [.str [114],.str [97]],.list 4 [DI 7,DI 15,DI 20,DI 660],.str [],DI 3,.str [102,111,108,108,111,119],.list 3 [.str [102],.str [98],.str [114]],.list 4 [DI 8,DI 15,DI 20,DI 700],.str [],DI 4,.str [114,101,118,101,114,115,101],.list 1 [.str [114]],.list 1 [DI 9],.str []]),S [97],I 6,I 16] (.tup [.d (DI 600),.d (DI 0)]):=g.compR 1000 (by decide+kernel)
theorem ao3:Fc E zcn [.d (.list 4 [DI 1,.str [101,110,116,101,114],.list 2 [.str [101],.str [97]],.list 4 [DI 5,DI 10,DI 20,DI 600],.str [],DI 2,.str [114,117,108,101],.list 2 [.str [114],.str [97]],.list 4 [DI 7,DI 15,DI 20,DI 660],.str [],DI 3,.str [102,111,108,108,111,119],.list 3 [.str [102],.str [98],.str [114]],.list 4 [DI 8,DI 15,DI 20,DI 700],.str [],DI 4,.str [114,101,118,101,114,115,101],.list 1 [.str [114]],.list 1 [DI 9],.str []]),S [97],I 7,I 16] (.tup [.d (DI 660),.d (DI 0)]):=g.compR 1000 (by decide+kernel)
theorem ao4:Fc E zcn [.d (.list 4 [DI 1,.str [101,110,116,101,114],.list 2 [.str [101],.str [97]],.list 4 [DI 5,DI 10,DI 20,DI 600],.str [],DI 2,.str [114,117,108,101],.list 2 [.str [114],.str [97]],.list 4 [DI 7,DI 15,DI 20,DI 660],.str [],DI 3,.str [102,111,108,108,111,119],.list 3 [.str [102],.str [98],.str [114]],.list 4 [DI 8,DI 15,DI 20,DI 700],.str [],DI 4,.str [114,101,118,101,114,115,101],.list 1 [.str [114]],.list 1 [DI 9],.str []]),S [98],I 8,I 16] (.tup [.d (DI 700),.d (DI 0)]):=g.compR 1000 (by decide+kernel)
theorem ao5:Fc E zcn [.d (.list 4 [DI 1,.str [101,110,116,101,114],.list 2 [.str [101],.str [97]],.list 4 [DI 5,DI 10,DI 20,DI 600],.str [],DI 2,.str [114,117,108,101],.list 2 [.str [114],.str [97]],.list 4 [DI 7,DI 15,DI 20,DI 660],.str [],DI 3,.str [102,111,108,108,111,119],.list 3 [.str [102],.str [98],.str [114]],.list 4 [DI 8,DI 15,DI 20,DI 700],.str [],DI 4,.str [114,101,118,101,114,115,101],.list 1 [.str [114]],.list 1 [DI 9],.str []]),S [97],I 9,I 12] (.tup [.d (DI 600),.d (DI 0)]):=g.compR 1000 (by decide+kernel)
theorem ao6:Fc E zcn [.d (.list 4 [DI 1,.str [101,110,116,101,114],.list 2 [.str [101],.str [97]],.list 4 [DI 5,DI 10,DI 20,DI 600],.str [],DI 2,.str [114,117,108,101],.list 2 [.str [114],.str [97]],.list 4 [DI 7,DI 15,DI 20,DI 660],.str [],DI 3,.str [102,111,108,108,111,119],.list 3 [.str [102],.str [98],.str [114]],.list 4 [DI 8,DI 15,DI 20,DI 700],.str [],DI 4,.str [114,101,118,101,114,115,101],.list 1 [.str [114]],.list 1 [DI 9],.str []]),S [97],I 9,I 16] (.tup [.d (DI 600),.d (DI 0)]):=g.compR 1000 (by decide+kernel)
theorem ao7:Fc E zcn [.d (.list 4 [DI 1,.str [101,110,116,101,114],.list 2 [.str [101],.str [97]],.list 4 [DI 5,DI 10,DI 20,DI 600],.str [],DI 2,.str [114,117,108,101],.list 2 [.str [114],.str [97]],.list 4 [DI 7,DI 15,DI 20,DI 660],.str [],DI 3,.str [102,111,108,108,111,119],.list 3 [.str [102],.str [98],.str [114]],.list 4 [DI 8,DI 15,DI 20,DI 700],.str [],DI 4,.str [114,101,118,101,114,115,101],.list 1 [.str [114]],.list 1 [DI 9],.str []]),S [98],I 9,I 16] (.tup [.d (DI 1440),.d (DI 0)]):=g.compR 1000 (by decide+kernel)
theorem ao8:Fc E zcn [.d (.list 4 [DI 1,.str [101,110,116,101,114],.list 2 [.str [101],.str [97]],.list 4 [DI 5,DI 10,DI 20,DI 600],.str [],DI 2,.str [114,117,108,101],.list 2 [.str [114],.str [97]],.list 4 [DI 7,DI 15,DI 20,DI 660],.str [],DI 3,.str [102,111,108,108,111,119],.list 3 [.str [102],.str [98],.str [114]],.list 4 [DI 8,DI 15,DI 20,DI 700],.str [],DI 4,.str [114,101,118,101,114,115,101],.list 1 [.str [114]],.list 1 [DI 9],.str []]),S [97],I 4,I 16] (.tup [.d (DI 1440),.d (DI 0)]):=g.compR 1000 (by decide+kernel)
theorem ao9:Fc E zef [.d (.list 4 [DI 1,.str [101,110,116,101,114],.list 2 [.str [101],.str [97]],.list 4 [DI 5,DI 10,DI 20,DI 600],.str [],DI 2,.str [114,117,108,101],.list 2 [.str [114],.str [97]],.list 4 [DI 7,DI 15,DI 20,DI 660],.str [],DI 3,.str [102,111,108,108,111,119],.list 3 [.str [102],.str [98],.str [114]],.list 4 [DI 8,DI 15,DI 20,DI 700],.str [],DI 4,.str [114,101,118,101,114,115,101],.list 1 [.str [114]],.list 1 [DI 9],.str []]),I 8] (.tup [.d (.list 3 [.str [101],.str [114],.str [102]]),.d (DI 0)]):=g.compR 1000 (by decide+kernel)
theorem yod:Fc E zef [.d (.list 4 [DI 1,.str [101,110,116,101,114],.list 2 [.str [101],.str [97]],.list 4 [DI 5,DI 10,DI 20,DI 600],.str [],DI 2,.str [114,117,108,101],.list 2 [.str [114],.str [97]],.list 4 [DI 7,DI 15,DI 20,DI 660],.str [],DI 3,.str [102,111,108,108,111,119],.list 3 [.str [102],.str [98],.str [114]],.list 4 [DI 8,DI 15,DI 20,DI 700],.str [],DI 4,.str [114,101,118,101,114,115,101],.list 1 [.str [114]],.list 1 [DI 9],.str []]),I 9] (.tup [.d (.list 1 [.str [101]]),.d (DI 0)]):=g.compR 1000 (by decide+kernel)
theorem yoe:Fc E zi1 [.d (.list 4 [DI 1,.str [101,110,116,101,114],.list 2 [.str [101],.str [97]],.list 4 [DI 5,DI 10,DI 20,DI 600],.str [],DI 2,.str [114,117,108,101],.list 2 [.str [114],.str [97]],.list 4 [DI 7,DI 15,DI 20,DI 660],.str [],DI 3,.str [102,111,108,108,111,119],.list 3 [.str [102],.str [98],.str [114]],.list 4 [DI 8,DI 15,DI 20,DI 700],.str [],DI 4,.str [114,101,118,101,114,115,101],.list 1 [.str [114]],.list 1 [DI 9],.str []]),S [114]] (.tup [.d (.list 1 [.str [102]]),.d (DI 0)]):=g.compR 1000 (by decide+kernel)
theorem yof:Fc E ziz [.d (.list 4 [DI 1,.str [101,110,116,101,114],.list 2 [.str [101],.str [97]],.list 4 [DI 5,DI 10,DI 20,DI 600],.str [],DI 2,.str [114,117,108,101],.list 2 [.str [114],.str [97]],.list 4 [DI 7,DI 15,DI 20,DI 660],.str [],DI 3,.str [102,111,108,108,111,119],.list 3 [.str [102],.str [98],.str [114]],.list 4 [DI 8,DI 15,DI 20,DI 700],.str [],DI 4,.str [114,101,118,101,114,115,101],.list 1 [.str [114]],.list 1 [DI 9],.str []]),S [97],I 16] (.tup [.d (.list 3 [DI 5,DI 600,DI 7,DI 660,DI 9,DI 600]),.d (DI 0)]):=g.compR 1000 (by decide+kernel)
theorem yog:Fc E zf5 [.d (.list 4 [DI 1,.str [101,110,116,101,114],.list 2 [.str [101],.str [97]],.list 4 [DI 5,DI 10,DI 20,DI 600],.str [],DI 2,.str [114,117,108,101],.list 2 [.str [114],.str [97]],.list 4 [DI 7,DI 15,DI 20,DI 660],.str [],DI 3,.str [102,111,108,108,111,119],.list 3 [.str [102],.str [98],.str [114]],.list 4 [DI 8,DI 15,DI 20,DI 700],.str [],DI 4,.str [114,101,118,101,114,115,101],.list 1 [.str [114]],.list 1 [DI 9],.str []]),S [97],I 8,I 9,.d (.agg [DI 10,DI 20,DI 127])] (.tup [.d (.list 6 [DI 15,DI 16,DI 17,DI 18,DI 19,DI 20]),.d (DI 0)]):=g.compR 1000 (by decide+kernel)
theorem yoh:Fc E zml [.d (.list 4 [DI 1,.str [101,110,116,101,114],.list 2 [.str [101],.str [97]],.list 4 [DI 5,DI 10,DI 20,DI 600],.str [],DI 2,.str [114,117,108,101],.list 2 [.str [114],.str [97]],.list 4 [DI 7,DI 15,DI 20,DI 660],.str [],DI 3,.str [102,111,108,108,111,119],.list 3 [.str [102],.str [98],.str [114]],.list 4 [DI 8,DI 15,DI 20,DI 700],.str [],DI 4,.str [114,101,118,101,114,115,101],.list 1 [.str [114]],.list 1 [DI 9],.str []]),I 8,I 16] (.tup [.d (.list 2 [.str [97],DI 660,.str [98],DI 700]),.d (DI 0)]):=g.compR 1000 (by decide+kernel)
end
end Go.Proofs.YtmbofbehkalgkaaGreatDoor.Co
