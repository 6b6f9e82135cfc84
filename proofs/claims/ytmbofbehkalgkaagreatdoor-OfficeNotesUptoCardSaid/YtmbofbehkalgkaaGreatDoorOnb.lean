/-
  OfficeNotes: what its law leans on, part 2.
-/
import Derived.Laws.RangeAny
import Derived.Lib.SplitLaws
import Derived.Test.YtmbofbehkalgkaaGreatDoorAwR
import Derived.Test.YtmbofbehkalgkaaGreatDoorEvN
import Derived.Test.YtmbofbehkalgkaaGreatDoorEvX
import Derived.Test.YtmbofbehkalgkaaGreatDoorEvY
import Derived.Test.YtmbofbehkalgkaaGreatDoorRead
import Derived.Test.YtmbofbehkalgkaaGreatDoorSpBase
import Derived.Test.YtmbofbehkalgkaaGreatDoorOna
namespace Go.Proofs.YtmbofbehkalgkaaGreatDoor.Co
open Go Go.Evl
set_option maxHeartbeats 32000000
set_option maxRecDepth 100000
section
variable {E : Oracle} (g : Good E)
include g
theorem ynr (t:Nat) (ev:List Evt) (r:Rgs) (ho:OkR r) (kn:Int) (k:Nat) (hk:k<r.es.length):Qs E zbk [.ptr ⟨0,0,0⟩ 1 0,yna r.es[k],I kn] (mR t ev r) (B (ylh r r.es[k] kn)):=by
 have h1:=yc8 r.es r.es.length r.es[k]
 have h2:=ho.es
 exact yhn g t ev r kn (by have:=ho.rs;omega) (by omega) k hk _ (yip ho.bases r.es.length k (by omega) hk) (by omega)
theorem ye4 (t:Nat) (ev:List Evt) (r:Rgs) (ho:OkR r) (nm:List UInt8) (kn:Int):Qs E zb4 [.ptr ⟨0,0,0⟩ 1 0,S nm,I kn] (mR t ev r) (I (zrx r nm kn)):=by
 refine⟨?_⟩
 have hes:=ho.es
 have hml:(r.es.flatMap Ent.cells).length=r.es.length*8:=zay Ent.cells 8 z88 r.es
 have hq:=z19 g t ev r nm (by omega)
 refine In.enter (f:=zb4) g.lim rfl rfl ?_
 rcases zgt r.es nm with⟨h,_⟩|⟨k,hk,h,hnm,_⟩
 ·rw [z4q h]
  rw [h,ydi,if_neg (by decide)] at hq
  repeat' ((conv=>whnf);first
  | refine Yz ?_
   | (refine zlk.of (r':= .d .nilp) isR rfl rfl rfl rfl hq rfl rfl rfl ?_)
   | (exact⟨rfl,rfl,rfl,rfl,rfl,rfl,trivial⟩)
   | fail)
 ·rw [z4r hk h]
  rw [h,ydi,if_pos (by omega)] at hq
  have hc:=ynr g t ev r ho kn k hk
  have hwin:win (r.es.flatMap Ent.cells) ((0+((k:Nat):Int).toNat)*8) 8=r.es[k].cells:=by
   rw [Nat.zero_add,Int.toNat_natCast]
   exact zil Ent.cells 8 z88 r.es k hk
  cases hb:ylh r r.es[k] kn with
  | true=>
   rw [hb] at hc
   have hw:Fc E zak [B false,I 20] (I 0):=zn8 g false 20
   repeat' ((conv=>whnf);first
   | refine Yz ?_
    | (refine zlk.of (r':= .ptr ⟨0,0,2⟩ ((0+((k:Nat):Int).toNat)*8) r.es.length) isR rfl rfl rfl rfl hq rfl rfl rfl ?_)
    | (rw [hwin];refine zlk.of (r':=B true) isR rfl rfl rfl rfl hc rfl rfl rfl ?_)
    | (apply zaz.of;assumption)
    | (exact⟨rfl,rfl,rfl,rfl,rfl,rfl,trivial⟩)
    | fail)
  | false=>
   rw [hb] at hc
   have hw:Fc E zak [B true,I 20] (I 20):=zn8 g true 20
   repeat' ((conv=>whnf);first
   | refine Yz ?_
    | (refine zlk.of (r':= .ptr ⟨0,0,2⟩ ((0+((k:Nat):Int).toNat)*8) r.es.length) isR rfl rfl rfl rfl hq rfl rfl rfl ?_)
    | (rw [hwin];refine zlk.of (r':=B false) isR rfl rfl rfl rfl hc rfl rfl rfl ?_)
    | (apply zaz.of;assumption)
    | (exact⟨rfl,rfl,rfl,rfl,rfl,rfl,trivial⟩)
    | fail)
theorem zhv (b:Bool) (e:Int):Fc E zak [B b,I e] (I (if b then e else 0)):=zn8 g b e
theorem zie (a b:Int):Fc E za0 [.d (.list 2 [DI a,DI b])] (I (zbf [a,b])):=zox g [a,b] (by simp)
theorem zjo (a b c:Int):Fc E za0 [.d (.list 3 [DI a,DI b,DI c])] (I (zbf [a,b,c])):=zox g [a,b,c] (by simp)
theorem z7r (t:Nat) (ev:List Evt) (r:Rgs) (ho:OkR r) (nu:Int) (ki:List UInt8) (a s:List UInt8) (more:List (List UInt8)) (b:List UInt8) (kn f u m:Int) (tx:List UInt8) (hb:ki=zc1->more=[b]):
  Qs E zat [.ptr ⟨0,0,0⟩ 1 0,Evv ⟨nu,ki,a::s::more,[kn,f,u,m],tx⟩] (mR t ev r) (I (zvn r (decide (ki=zc1)) a b kn f u m)):=by
 refine⟨?_⟩
 have hes:=ho.es
 have hq:=z19 g t ev r a (by omega)
 have hov:=ye4 g t ev r ho b kn
 change In E 1 zat [.ptr ⟨0,0,0⟩ 1 0,.d (.agg [DI nu,.str ki,.list (more.length+1+1) (.str a:: .str s::more.map D.str),.list 4 [DI kn,DI f,DI u,DI m],.str tx])] (mR t ev r) _
 refine In.enter (f:=zat) g.lim rfl rfl ?_
 unfold zvn ym3
 generalize hA:zsh r.es a=i at *
 have hlist:more.map D.str=more.map D.str:=rfl
 by_cases hi:0<=i
 ·rw [if_pos hi,show zbf [9,if 256<=r.es.length then 5 else 0]=9 from rfl,if_pos (by decide)]
  rw [ydi,if_pos hi] at hq
  by_cases h256:256<=r.es.length
  all_goals
   repeat' ((conv=>whnf);first
   | refine Yz ?_
    | (refine zlk.of (r':= .ptr ⟨0,0,2⟩ ((0+i.toNat)*8) r.es.length) isR rfl rfl rfl rfl hq rfl rfl rfl ?_)
    | (refine zaz.of (zhv g _ _) ?_)
    | (refine zaz.of (zie g _ _) ?_)
    | (exact⟨rfl,rfl,rfl,rfl,rfl,rfl,trivial⟩)
   | fail)
 ·rw [if_neg hi]
  rw [ydi,if_neg hi] at hq
  by_cases h256:256<=r.es.length
  ·rw [if_pos h256,show zbf [0,5]=5 from rfl,if_pos (by decide)]
   repeat' ((conv=>whnf);first
   | refine Yz ?_
    | (refine zlk.of (r':= .d .nilp) isR rfl rfl rfl rfl hq rfl rfl rfl ?_)
    | (refine zaz.of (zhv g _ _) ?_)
    | (refine zaz.of (zie g _ _) ?_)
    | (exact⟨rfl,rfl,rfl,rfl,rfl,rfl,trivial⟩)
   | fail)
  ·rw [if_neg h256,show zbf [0,0]=0 from rfl,if_neg (by decide)]
   by_cases hf:ki=zc1
   ·obtain rfl:=hb hf
    rw [decide_eq_true hf]
    generalize zrx r b kn=o at *
    by_cases ho0:o=0
    ·rw [if_neg (fun h=>h.2 ho0)]
     by_cases c1:99999<f
     all_goals by_cases c2:99999<u
     all_goals by_cases c3:1440<m
     all_goals by_cases c4:u<f
     all_goals
      repeat' ((conv=>whnf);first
      | refine Yz ?_
       | (refine zlk.of (r':= .d .nilp) isR rfl rfl rfl rfl hq rfl rfl rfl ?_)
       | (refine zlk.of (r':=I o) isR rfl rfl rfl rfl hov rfl rfl rfl ?_)
       | (refine Cmp.tt hf ?_)
       | (refine zaz.of (zhv g _ _) ?_)
       | (refine zaz.of (zie g _ _) ?_)
       | (exact⟨rfl,rfl,rfl,rfl,rfl,rfl,trivial⟩)
      | (refine⟨?_,rfl,rfl,rfl,rfl,rfl,trivial⟩)
      | (exfalso;omega)
      | fail)
     all_goals simp [c1,c2,c3,c4,zbf]
    ·rw [if_pos ⟨rfl,ho0⟩]
     repeat' ((conv=>whnf);first
     | refine Yz ?_
      | (refine zlk.of (r':= .d .nilp) isR rfl rfl rfl rfl hq rfl rfl rfl ?_)
      | (refine zlk.of (r':=I o) isR rfl rfl rfl rfl hov rfl rfl rfl ?_)
      | (refine Cmp.tt hf ?_)
      | (refine Cmp.ff ho0 ?_)
      | (refine zaz.of (zhv g _ _) ?_)
      | (refine zaz.of (zie g _ _) ?_)
      | (exact⟨rfl,rfl,rfl,rfl,rfl,rfl,trivial⟩)
     | fail)
   ·rw [decide_eq_false hf,if_neg (fun h=>by cases h.1)]
    by_cases c1:99999<f
    all_goals by_cases c2:99999<u
    all_goals by_cases c3:1440<m
    all_goals by_cases c4:u<f
    all_goals
     repeat' ((conv=>whnf);first
     | refine Yz ?_
      | (refine zlk.of (r':= .d .nilp) isR rfl rfl rfl rfl hq rfl rfl rfl ?_)
      | (refine Cmp.ff hf ?_)
      | (refine zaz.of (zhv g _ _) ?_)
      | (refine zaz.of (zie g _ _) ?_)
      | (exact⟨rfl,rfl,rfl,rfl,rfl,rfl,trivial⟩)
     | (refine⟨?_,rfl,rfl,rfl,rfl,rfl,trivial⟩)
     | (exfalso;omega)
     | fail)
    all_goals simp [c1,c2,c3,c4,zbf]
end
section
variable {E : Oracle} (g : Good E)
include g
theorem z18 (t:Nat) (ev:List Evt) (r:Rgs) (ho:OkR r) (nu:Int) (ki a:List UInt8) (kn:Int) (tx:List UInt8):
  Qs E za7 [.ptr ⟨0,0,0⟩ 1 0,Evv ⟨nu,ki,[a],[kn],tx⟩] (mR t ev r) (I (yc1 r a kn)):=by
 refine⟨?_⟩
 have hes:=ho.es
 have hml:(r.es.flatMap Ent.cells).length=r.es.length*8:=zay Ent.cells 8 z88 r.es
 have hq:=z19 g t ev r a (by omega)
 have hov:=ye4 g t ev r ho a kn
 change In E 1 za7 [.ptr ⟨0,0,0⟩ 1 0,.d (.agg [DI nu,.str ki,.list 1 [.str a],.list 1 [DI kn],.str tx])] (mR t ev r) _
 refine In.enter (f:=za7) g.lim rfl rfl ?_
 unfold yc1
 rcases zgt r.es a with⟨h,_⟩|⟨k,hk,h,hnm,_⟩
 ·rw [h,if_pos (by decide)]
  rw [h,ydi,if_neg (by decide)] at hq
  repeat' ((conv=>whnf);first
  | refine Yz ?_
   | (refine zlk.of (r':= .d .nilp) isR rfl rfl rfl rfl hq rfl rfl rfl ?_)
   | (exact⟨rfl,rfl,rfl,rfl,rfl,rfl,trivial⟩)
   | fail)
 ·have hgd:r.es.getD k ym1=r.es[k]:=by simp [List.getD,hk]
  rw [h,if_neg (by omega),Int.toNat_natCast,hgd]
  rw [h,ydi,if_pos (by omega)] at hq
  generalize zrx r a kn=o at *
  by_cases hkd:r.es[k].kd=zup
  ·rw [if_pos hkd]
   repeat' ((conv=>whnf);first
   | refine Yz ?_
    | (refine zlk.of (r':= .ptr ⟨0,0,2⟩ ((0+((k:Nat):Int).toNat)*8) r.es.length) isR rfl rfl rfl rfl hq rfl rfl rfl ?_)
    | (refine zgz.rec0 z88 k rfl hk rfl ?_)
    | (refine Cmp.ff (fun h=>h hkd) ?_)
    | (refine Cmp.tt hkd ?_)
    | (rw [hnm];refine zlk.of (r':=I o) isR rfl rfl rfl rfl hov rfl rfl rfl ?_)
    | (refine zaz.of (zhv g _ _) ?_)
    | (refine zaz.of (zie g _ _) ?_)
    | (exact⟨rfl,rfl,rfl,rfl,rfl,rfl,trivial⟩)
    | fail)
  ·rw [if_neg hkd]
   repeat' ((conv=>whnf);first
   | refine Yz ?_
    | (refine zlk.of (r':= .ptr ⟨0,0,2⟩ ((0+((k:Nat):Int).toNat)*8) r.es.length) isR rfl rfl rfl rfl hq rfl rfl rfl ?_)
    | (refine zgz.rec0 z88 k rfl hk rfl ?_)
    | (refine Cmp.ff hkd ?_)
    | (refine Cmp.tt hkd ?_)
    | (rw [hnm];refine zlk.of (r':=I o) isR rfl rfl rfl rfl hov rfl rfl rfl ?_)
    | (refine zaz.of (zhv g _ _) ?_)
    | (refine zaz.of (zie g _ _) ?_)
    | (exact⟨rfl,rfl,rfl,rfl,rfl,rfl,trivial⟩)
    | fail)
theorem zxn (t:Nat) (ev:List Evt) (r:Rgs) (ho:OkR r) (nu:Int) (ki a en:List UInt8) (kn:Int) (tx:List UInt8):
  Qs E za4 [.ptr ⟨0,0,0⟩ 1 0,Evv ⟨nu,ki,[a,en],[kn],tx⟩] (mR t ev r) (I (z8t r a en kn)):=by
 refine⟨?_⟩
 have hcs:=ho.cs
 have hq:=zqm g t ev r a (by omega)
 have hov:=ye4 g t ev r ho en kn
 change In E 1 za4 [.ptr ⟨0,0,0⟩ 1 0,.d (.agg [DI nu,.str ki,.list 2 [.str a,.str en],.list 1 [DI kn],.str tx])] (mR t ev r) _
 refine In.enter (f:=za4) g.lim rfl rfl ?_
 unfold z8t
 generalize zrx r en kn=o at *
 generalize z6p r.cs a=i at *
 by_cases hi:0<=i
 ·rw [if_pos hi]
  rw [yir,if_pos hi] at hq
  by_cases h64:64<=r.cs.length
  ·rw [if_pos h64]
   repeat' ((conv=>whnf);first
   | refine Yz ?_
    | (refine zlk.of (r':= .ptr ⟨0,0,4⟩ ((0+i.toNat)*5) r.cs.length) isR rfl rfl rfl rfl hq rfl rfl rfl ?_)
    | (refine zlk.of (r':=I o) isR rfl rfl rfl rfl hov rfl rfl rfl ?_)
    | (refine zaz.of (zhv g _ _) ?_)
    | (refine zaz.of (zjo g _ _ _) ?_)
    | (exact⟨rfl,rfl,rfl,rfl,rfl,rfl,trivial⟩)
    | fail)
  ·rw [if_neg h64]
   repeat' ((conv=>whnf);first
   | refine Yz ?_
    | (refine zlk.of (r':= .ptr ⟨0,0,4⟩ ((0+i.toNat)*5) r.cs.length) isR rfl rfl rfl rfl hq rfl rfl rfl ?_)
    | (refine zlk.of (r':=I o) isR rfl rfl rfl rfl hov rfl rfl rfl ?_)
    | (refine zaz.of (zhv g _ _) ?_)
    | (refine zaz.of (zjo g _ _ _) ?_)
    | (exact⟨rfl,rfl,rfl,rfl,rfl,rfl,trivial⟩)
    | fail)
 ·rw [if_neg hi]
  rw [yir,if_neg hi] at hq
  by_cases h64:64<=r.cs.length
  ·rw [if_pos h64]
   repeat' ((conv=>whnf);first
   | refine Yz ?_
    | (refine zlk.of (r':= .d .nilp) isR rfl rfl rfl rfl hq rfl rfl rfl ?_)
    | (refine zlk.of (r':=I o) isR rfl rfl rfl rfl hov rfl rfl rfl ?_)
    | (refine zaz.of (zhv g _ _) ?_)
    | (refine zaz.of (zjo g _ _ _) ?_)
    | (exact⟨rfl,rfl,rfl,rfl,rfl,rfl,trivial⟩)
    | fail)
  ·rw [if_neg h64]
   repeat' ((conv=>whnf);first
   | refine Yz ?_
    | (refine zlk.of (r':= .d .nilp) isR rfl rfl rfl rfl hq rfl rfl rfl ?_)
    | (refine zlk.of (r':=I o) isR rfl rfl rfl rfl hov rfl rfl rfl ?_)
    | (refine zaz.of (zhv g _ _) ?_)
    | (refine zaz.of (zjo g _ _ _) ?_)
    | (exact⟨rfl,rfl,rfl,rfl,rfl,rfl,trivial⟩)
    | fail)
theorem zyr (t:Nat) (ev:List Evt) (r:Rgs) (ho:OkR r) (nu:Int) (ki a:List UInt8) (kn v:Int) (tx:List UInt8):
  Qs E za5 [.ptr ⟨0,0,0⟩ 1 0,Evv ⟨nu,ki,[a],[kn,v],tx⟩] (mR t ev r) (I (z2x r a v)):=by
 refine⟨?_⟩
 have hcs:=ho.cs
 have hml:(r.cs.flatMap Cpl.cells).length=r.cs.length*5:=zay Cpl.cells 5 ycq r.cs
 have hq:=zqm g t ev r a (by omega)
 change In E 1 za5 [.ptr ⟨0,0,0⟩ 1 0,.d (.agg [DI nu,.str ki,.list 1 [.str a],.list 2 [DI kn,DI v],.str tx])] (mR t ev r) _
 refine In.enter (f:=za5) g.lim rfl rfl ?_
 unfold z2x
 rcases zy6 r.cs a with h|⟨k,hk,h,hnm⟩
 ·rw [h,if_pos (by decide)]
  rw [h,yir,if_neg (by decide)] at hq
  repeat' ((conv=>whnf);first
  | refine Yz ?_
   | (refine zlk.of (r':= .d .nilp) isR rfl rfl rfl rfl hq rfl rfl rfl ?_)
   | (exact⟨rfl,rfl,rfl,rfl,rfl,rfl,trivial⟩)
   | fail)
 ·have hgd:r.cs.getD k yli=r.cs[k]:=by simp [List.getD,hk]
  rw [h,if_neg (by omega),Int.toNat_natCast,hgd]
  rw [h,yir,if_pos (by omega)] at hq
  by_cases hv:1<v
  ·rw [if_pos hv]
   repeat' ((conv=>whnf);first
   | refine Yz ?_
    | (refine zlk.of (r':= .ptr ⟨0,0,4⟩ ((0+((k:Nat):Int).toNat)*5) r.cs.length) isR rfl rfl rfl rfl hq rfl rfl rfl ?_)
    | (refine zgz.rec0 ycq k rfl hk rfl ?_)
    | (refine zaz.of (zhv g _ _) ?_)
    | (refine zaz.of (zie g _ _) ?_)
    | (exact⟨rfl,rfl,rfl,rfl,rfl,rfl,trivial⟩)
    | fail)
  ·rw [if_neg hv]
   repeat' ((conv=>whnf);first
   | refine Yz ?_
    | (refine zlk.of (r':= .ptr ⟨0,0,4⟩ ((0+((k:Nat):Int).toNat)*5) r.cs.length) isR rfl rfl rfl rfl hq rfl rfl rfl ?_)
    | (refine zgz.rec0 ycq k rfl hk rfl ?_)
    | (refine zaz.of (zhv g _ _) ?_)
    | (refine zaz.of (zie g _ _) ?_)
    | (exact⟨rfl,rfl,rfl,rfl,rfl,rfl,trivial⟩)
    | fail)
end
abbrev mH (ev:List Evt) (r:Rgs):Mem:=[(⟨0,12,0⟩,.row false zae 5 ev.length (ev.flatMap Evt.cells)),(⟨0,12,1⟩,.row false zab 8 r.es.length (r.es.flatMap Ent.cells)),(⟨0,12,2⟩,.row false zaj 2 r.rs.length (r.rs.flatMap Rmv.cells)),(⟨0,12,3⟩,.row true zad 5 r.cs.length (r.cs.flatMap Cpl.cells)),
 (⟨0,13,0⟩,.cells zei [.ref ⟨0,12,0⟩ 0 ev.length ev.length,I r.kn,.ref ⟨0,12,1⟩ 0 r.es.length r.es.length,.ref ⟨0,12,2⟩ 0 r.rs.length r.rs.length,.ref ⟨0,12,3⟩ 0 r.cs.length r.cs.length])]
abbrev isH:List Evl.Id:=[⟨0,13,0⟩,⟨0,12,0⟩,⟨0,12,1⟩,⟨0,12,2⟩,⟨0,12,3⟩]
theorem zwt {e:Evt} (h:yco e=0):
  (∃nu ki a s more kn f u m,e=⟨nu,ki,a::s::more,[kn,f,u,m],[]⟩/\yd3 ki=true/\(ki=zc1->∃b,more=[b])/\(ki=zpj\/ki=zup\/ki=zc1))\/
  (∃nu a kn,e=⟨nu,zdo,[a],[kn],[]⟩)\/(∃nu a en kn,e=⟨nu,zct,[a,en],[kn],[]⟩)\/(∃nu a kn v,e=⟨nu,zfl,[a],[kn,v],[]⟩):=by
 obtain⟨h1,h2,h3,_,_,h6,_,_⟩:=yc9 h
 obtain⟨nu,ki,ns,vs,tx⟩:=e
 dsimp only at h1 h2 h3 h6
 subst h6
 have l1:∀ {α:Type} (l:List α),l.length=1->∃a,l=[a]:=fun l hl=>List.length_eq_one_iff.1 hl
 have l2:∀ {α:Type} (l:List α),l.length=2->∃a b,l=[a,b]:=fun l hl=>by
  rcases l with _|⟨a,_|⟨b,_|⟨_,_⟩⟩⟩<;>simp at hl
  exact⟨a,b,rfl⟩
 have l4:∀(l:List Int),l.length=4->∃a b c d,l=[a,b,c,d]:=fun l hl=>by
  rcases l with _|⟨a,_|⟨b,_|⟨c,_|⟨d,_|⟨_,_⟩⟩⟩⟩⟩<;>simp at hl
  exact⟨a,b,c,d,rfl⟩
 rcases zzo ki with rfl|rfl|rfl|rfl|rfl|rfl|⟨k1,k2,k3,k4,k5,k6⟩
 ·obtain⟨a,b,rfl⟩:=l2 ns h2
  obtain⟨c,d,e,f,rfl⟩:=l4 vs h3
  exact .inl ⟨nu,_,a,b,[],c,d,e,f,rfl,by decide,fun h=>absurd h (by decide),.inl rfl⟩
 ·obtain⟨a,b,rfl⟩:=l2 ns h2
  obtain⟨c,d,e,f,rfl⟩:=l4 vs h3
  exact .inl ⟨nu,_,a,b,[],c,d,e,f,rfl,by decide,fun h=>absurd h (by decide),.inr (.inl rfl)⟩
 ·obtain⟨a,b,x,rfl⟩:∃a b x,ns=[a,b,x]:=by
   have h2:ns.length=3:=h2
   rcases ns with _|⟨a,_|⟨b,_|⟨c,_|⟨_,_⟩⟩⟩⟩<;>simp at h2
   exact⟨a,b,c,rfl⟩
  obtain⟨c,d,e,f,rfl⟩:=l4 vs h3
  exact .inl ⟨nu,_,a,b,[x],c,d,e,f,rfl,by decide,fun _=>⟨x,rfl⟩,.inr (.inr rfl)⟩
 ·obtain⟨a,rfl⟩:=l1 ns h2
  obtain⟨c,rfl⟩:=l1 vs h3
  exact .inr (.inl ⟨nu,a,c,rfl⟩)
 ·obtain⟨a,b,rfl⟩:=l2 ns h2
  obtain⟨c,rfl⟩:=l1 vs h3
  exact .inr (.inr (.inl ⟨nu,a,b,c,rfl⟩))
 ·obtain⟨a,rfl⟩:=l1 ns h2
  obtain⟨c,d,rfl⟩:=l2 vs h3
  exact .inr (.inr (.inr ⟨nu,a,c,d,rfl⟩))
 ·simp [zzk,k1,k2,k3,k4,k5,k6] at h1
section
variable {E : Oracle} (g : Good E)
include g
omit g in
theorem yjf {r:Rgs} {n:Nat} {e:Evt} (h:yje r n e=0):e.nu=n+1/\¬vlN e 0<r.kn/\¬ 99999<vlN e 0:=by
 rw [yje,zcx] at h
 have a:=h (if e.nu=n+1 then 0 else 11) (by simp)
 have b:=h (if vlN e 0<r.kn then 19 else 0) (by simp)
 have c:=h (if 99999<vlN e 0 then 3 else 0) (by simp)
 refine⟨?_,?_,?_⟩
 ·exact Decidable.byContradiction fun hn=>by rw [if_neg hn] at a;omega
 ·intro hn;rw [if_pos hn] at b;omega
 ·intro hn;rw [if_pos hn] at c;omega
theorem ye3 (t:Nat) (ev:List Evt) (r:Rgs) (ho:OkR r) (e:Evt) (hc:yco e=0) (hev:ev.length<=1000000):
  Qs E zap [.ptr ⟨0,0,0⟩ 0 0,Evv e] (mR t ev r) (I (ygs r ev.length e)):=by
 refine⟨?_⟩
 unfold ygs
 by_cases hF:yje r ev.length e=0
 ·rw [if_neg (fun h=>h hF)]
  obtain⟨c1,c2,c3⟩:=yjf hF
  clear hF
  rcases zwt hc with⟨nu,ki,a,s,more,kn,f,u,m,rfl,hent,hfol,hki⟩|⟨nu,a,kn,rfl⟩|⟨nu,a,en,kn,rfl⟩|⟨nu,a,kn,v,rfl⟩
  ·change nu=_ at c1
   change ¬kn<_ at c2
   change ¬_<kn at c3
   obtain⟨b,hb⟩:∃b,ki=zc1->more=[b]:=by
    by_cases h:ki=zc1
    ·obtain⟨b,hb⟩:=hfol h
     exact⟨b,fun _=>hb⟩
    ·exact⟨[],fun h'=>absurd h' h⟩
   have hask:ya5 r ⟨nu,ki,a::s::more,[kn,f,u,m],[]⟩=zvn r (decide (ki=zc1)) a b kn f u m:=by
    rw [ya5,if_pos hent]
    by_cases h:ki=zc1
    ·rw [hb h];rfl
    ·unfold zvn
     rw [decide_eq_false h]
     simp only [Bool.false_eq_true,false_and,if_false]
     rfl
   have hq:=z7r g t ev r ho nu ki a s more b kn f u m [] hb
   rw [<-hask] at hq
   generalize ya5 r ⟨nu,ki,a::s::more,[kn,f,u,m],[]⟩=o at *
   have e1:Evv ⟨nu,ki,a::s::more,[kn,f,u,m],[]⟩= .d (.agg [DI nu,.str ki,.list (more.length+1+1) (.str a:: .str s::more.map D.str),.list 4 [DI kn,DI f,DI u,DI m],.str []]):=rfl
   rw [e1] at hq ⊢
   clear hfol hask hent hb
   rcases hki with rfl|rfl|rfl
   all_goals
    refine In.enter (f:=zap) g.lim rfl rfl ?_
    repeat' ((conv=>whnf);first
    | refine Yz ?_
     | (refine Cmp.ff (fun h=>h c1) ?_)
     | (refine zaz.of (zhv g _ _) ?_)
     | (refine zaz.of (zjo g _ _ _) ?_)
     | (refine zej.kinds g rfl ?_)
     | (refine ztt.mk ⟨_,rfl,?_⟩)
     | (refine zlk.of (r':=I o) isR rfl rfl rfl rfl hq rfl rfl rfl ?_)
     | (exact⟨rfl,rfl,rfl,rfl,rfl,rfl,trivial⟩)
     | fail)
  ·change nu=_ at c1
   change ¬kn<_ at c2
   change ¬_<kn at c3
   have hq:=z18 g t ev r ho nu zdo a kn []
   change Qs E za7 [.ptr ⟨0,0,0⟩ 1 0,.d (.agg [DI nu,.str zdo,.list 1 [.str a],.list 1 [DI kn],.str []])] (mR t ev r) (I (ya5 r ⟨nu,zdo,[a],[kn],[]⟩)) at hq
   generalize ya5 r ⟨nu,zdo,[a],[kn],[]⟩=o at *
   change In E 1 zap [.ptr ⟨0,0,0⟩ 0 0,.d (.agg [DI nu,.str zdo,.list 1 [.str a],.list 1 [DI kn],.str []])] (mR t ev r) _
   refine In.enter (f:=zap) g.lim rfl rfl ?_
   repeat' ((conv=>whnf);first
   | refine Yz ?_
    | (refine Cmp.ff (fun h=>h c1) ?_)
    | (refine zaz.of (zhv g _ _) ?_)
    | (refine zaz.of (zjo g _ _ _) ?_)
    | (refine zej.kinds g rfl ?_)
    | (refine ztt.mk ⟨_,rfl,?_⟩)
    | (refine zlk.of (r':=I o) isR rfl rfl rfl rfl hq rfl rfl rfl ?_)
    | (exact⟨rfl,rfl,rfl,rfl,rfl,rfl,trivial⟩)
    | fail)
  ·change nu=_ at c1
   change ¬kn<_ at c2
   change ¬_<kn at c3
   have hq:=zxn g t ev r ho nu zct a en kn []
   change Qs E za4 [.ptr ⟨0,0,0⟩ 1 0,.d (.agg [DI nu,.str zct,.list 2 [.str a,.str en],.list 1 [DI kn],.str []])] (mR t ev r) (I (ya5 r ⟨nu,zct,[a,en],[kn],[]⟩)) at hq
   generalize ya5 r ⟨nu,zct,[a,en],[kn],[]⟩=o at *
   change In E 1 zap [.ptr ⟨0,0,0⟩ 0 0,.d (.agg [DI nu,.str zct,.list 2 [.str a,.str en],.list 1 [DI kn],.str []])] (mR t ev r) _
   refine In.enter (f:=zap) g.lim rfl rfl ?_
   repeat' ((conv=>whnf);first
   | refine Yz ?_
    | (refine Cmp.ff (fun h=>h c1) ?_)
    | (refine zaz.of (zhv g _ _) ?_)
    | (refine zaz.of (zjo g _ _ _) ?_)
    | (refine zej.kinds g rfl ?_)
    | (refine ztt.mk ⟨_,rfl,?_⟩)
    | (refine zlk.of (r':=I o) isR rfl rfl rfl rfl hq rfl rfl rfl ?_)
    | (exact⟨rfl,rfl,rfl,rfl,rfl,rfl,trivial⟩)
    | fail)
  ·change nu=_ at c1
   change ¬kn<_ at c2
   change ¬_<kn at c3
   have hq:=zyr g t ev r ho nu zfl a kn v []
   change Qs E za5 [.ptr ⟨0,0,0⟩ 1 0,.d (.agg [DI nu,.str zfl,.list 1 [.str a],.list 2 [DI kn,DI v],.str []])] (mR t ev r) (I (ya5 r ⟨nu,zfl,[a],[kn,v],[]⟩)) at hq
   generalize ya5 r ⟨nu,zfl,[a],[kn,v],[]⟩=o at *
   change In E 1 zap [.ptr ⟨0,0,0⟩ 0 0,.d (.agg [DI nu,.str zfl,.list 1 [.str a],.list 2 [DI kn,DI v],.str []])] (mR t ev r) _
   refine In.enter (f:=zap) g.lim rfl rfl ?_
   repeat' ((conv=>whnf);first
   | refine Yz ?_
    | (refine Cmp.ff (fun h=>h c1) ?_)
    | (refine zaz.of (zhv g _ _) ?_)
    | (refine zaz.of (zjo g _ _ _) ?_)
    | (refine zej.kinds g rfl ?_)
    | (refine ztt.mk ⟨_,rfl,?_⟩)
    | (refine zlk.of (r':=I o) isR rfl rfl rfl rfl hq rfl rfl rfl ?_)
    | (exact⟨rfl,rfl,rfl,rfl,rfl,rfl,trivial⟩)
    | fail)
 ·rw [if_pos hF]
  obtain⟨nu,ki,ns,vs,tx⟩:=e
  obtain⟨kn,vr,rfl⟩:∃kn vr,vs=kn::vr:=by
   rcases zwt hc with⟨nu,ki,a,s,more,kn,f,u,m,h,_⟩|⟨nu,a,kn,h⟩|⟨nu,a,en,kn,h⟩|⟨nu,a,kn,v,h⟩
   all_goals
    simp only [Evt.mk.injEq] at h
    exact⟨_,_,h.2.2.2.1⟩
  unfold yje at hF ⊢
  change zbf [if nu=ev.length+1 then 0 else 11,if kn<r.kn then 19 else 0,if 99999<kn then 3 else 0]≠0 at hF
  change In E 1 zap [.ptr ⟨0,0,0⟩ 0 0,.d (.agg [DI nu,.str ki,.list ns.length (ns.map D.str),.list (vr.length+1) (DI kn::vr.map DI),.str tx])] (mR t ev r) (fun v m1=>v=I (zbf [if nu=ev.length+1 then 0 else 11,if kn<r.kn then 19 else 0,if 99999<kn then 3 else 0])/\ygq m1 (mR t ev r))
  by_cases c1:nu=ev.length+1
  all_goals by_cases c2:kn<r.kn
  all_goals by_cases c3:99999<kn
  all_goals simp only [c1,c2,c3,if_true,if_false] at hF ⊢
  all_goals try (exact absurd rfl hF)
  all_goals refine In.enter (f:=zap) g.lim rfl rfl ?_
  all_goals repeat' ((conv=>whnf);first
  | refine Yz ?_
   | (refine Cmp.tt c1 ?_)
   | (refine Cmp.ff (fun h=>h rfl) ?_)
   | (refine zaz.of (zhv g _ _) ?_)
   | (refine zaz.of (zjo g _ _ _) ?_)
   | (exact⟨rfl,rfl,rfl,rfl,rfl,rfl,trivial⟩)
   | fail)
end
theorem zzd {α:Type} (cell:α->List D) (w:Nat) (hw:∀a,(cell a).length=w) (l:List α) (k j:Nat) (hk:k<l.length) (hj:j<w) (d:D) (x:α) (hx:cell x=patch (cell l[k]) j [d]):patch (l.flatMap cell) (k*w+j) [d]=(l.set k x).flatMap cell:=by
 have h1:l=l.take k++l[k]::l.drop (k+1):=by rw [<-List.drop_eq_getElem_cons hk,List.take_append_drop]
 have h2:l.set k x=l.take k++x::l.drop (k+1):=by
  rw [List.set_eq_take_append_cons_drop,if_pos hk]
 rw [h2,List.flatMap_append,List.flatMap_cons,hx]
 have h3:l.flatMap cell=(l.take k).flatMap cell++(cell l[k]++(l.drop (k+1)).flatMap cell):=by
  rw [<-List.flatMap_cons,<-List.flatMap_append]
  exact congrArg (List.flatMap cell) h1
 rw [h3]
 have h4:((l.take k).flatMap cell).length=k*w:=by
  rw [zay cell w hw,List.length_take,Nat.min_eq_left (by omega)]
 have h5:=hw l[k]
 generalize (l.take k).flatMap cell=A at *
 generalize (l.drop (k+1)).flatMap cell=C at *
 generalize cell l[k]=B at *
 unfold patch
 rw [<-h4,List.take_append,List.take_of_length_le (by omega),Nat.add_sub_cancel_left,List.take_append_of_le_length (by omega)]
 rw [List.drop_append,List.drop_of_length_le (by simp;omega),List.length_singleton,Nat.add_assoc,Nat.add_sub_cancel_left,List.drop_append_of_le_length (by omega)]
 simp
section
variable {E : Oracle} (g : Good E)
include g
theorem zvg (l:List (List UInt8)) (hl:l≠[]) (hb:l.length<=1000000):Fc E zda [Ws l] (Ws l):=by
 obtain⟨x,r,rfl⟩:=List.exists_cons_of_ne_nil hl
 rw [List.length_cons] at hb
 change Fc E _ [.d (.list (r.length+1) (.str x::r.map D.str))] (.d (.list (r.length+1) (.str x::r.map D.str)))
 refine g.fn rfl rfl ?_
 repeat' ((conv=>whnf);first
 | refine Yz ?_
  | (refine zez.mk ⟨rfl,rfl,rfl,rfl,rfl,by simp,by omega,by omega⟩ ?_)
  | (refine Chk.mk rfl ?_)
  | fail)
 all_goals try (refine Ret.mk ?_;simp)
theorem zvf (l:List Int) (hl:l≠[]) (hb:l.length<=1000000):Fc E zeu [LI l] (LI l):=by
 obtain⟨x,r,rfl⟩:=List.exists_cons_of_ne_nil hl
 rw [List.length_cons] at hb
 change Fc E _ [.d (.list (r.length+1) (DI x::r.map DI))] (.d (.list (r.length+1) (DI x::r.map DI)))
 refine g.fn rfl rfl ?_
 repeat' ((conv=>whnf);first
 | refine Yz ?_
  | (refine zez.mk ⟨rfl,rfl,rfl,rfl,rfl,by simp,by omega,by omega⟩ ?_)
  | (refine Chk.mk rfl ?_)
  | fail)
 all_goals try (refine Ret.mk ?_;simp)
abbrev bxE (e:Evt):Evl.Id×Ob:=(⟨0,7,0⟩,.cells zae [I e.nu,S e.ki,.d (.list e.ns.length (e.ns.map D.str)),.d (.list e.vs.length (e.vs.map DI)),S e.tx])
theorem ylz (ev:List Evt) (r:Rgs) (ho:OkR r) (hrs:r.rs.length<1000) (e:Evt) (hs:zqo r ev.length e=0) (hev:ev.length<=1000) {slot:Nat} {K:V->Mem->Prop} (hK:K (.tup []) (mH (ev++[e]) (z6b r e)++[bxE e])):
  In E 1 zaq [.ptr ⟨0,13,0⟩ 0 0,Evv e] (mH ev r++[bxE e]) fun v m'=>z6e ⟨0,1⟩ slot true v m' K:=by
 obtain⟨hc,ha⟩:=yf6 hs
 obtain⟨_,_,_,hask⟩:=yik ha
 have hes:=ho.es
 have hcs:=ho.cs
 have hme:(ev.flatMap Evt.cells).length=ev.length*5:=zay Evt.cells 5 evw ev
 rcases zwt hc with⟨nu,ki,a,s,more,kn,f,u,m,rfl,hent,hfol,hki⟩|⟨nu,a,kn,rfl⟩|⟨nu,a,en,kn,rfl⟩|⟨nu,a,kn,v,rfl⟩
 ·have hc1:=zvg g (a::s::more) (by simp) (by
   have h:=(yc9 hc).2.1
   dsimp only at h
   rw [h]
   rcases hki with rfl|rfl|rfl
   ·decide
   ·decide
   ·decide)
  have hc2:=zvf g [kn,f,u,m] (by simp) (by simp)
  rw [ya5,if_pos hent] at hask
  obtain⟨_,hl,_⟩:=z2y hask
  have hml:(r.es.flatMap Ent.cells).length=r.es.length*8:=zay Ent.cells 8 z88 r.es
  clear hs hc ha hask
  by_cases hf:ki=zc1
  ·obtain⟨b,rfl⟩:=hfol hf
   subst hf
   have haft:z6b r ⟨nu,zc1,[a,s,b],[kn,f,u,m],[]⟩=⟨kn,r.es++[⟨a,zc1,s,b,kn,f,u,m⟩],r.rs,r.cs⟩:=rfl
   rw [haft] at hK
   simp only [List.length_append,List.length_cons,List.length_nil,List.flatMap_append,List.flatMap_cons,List.flatMap_nil,mH,bxE] at hK
   change Fc E _ [.d (.list 3 [.str a,.str s,.str b])] (.d (.list 3 [.str a,.str s,.str b])) at hc1
   change Fc E _ [.d (.list 4 [DI kn,DI f,DI u,DI m])] (.d (.list 4 [DI kn,DI f,DI u,DI m])) at hc2
   change In E 1 zaq [.ptr ⟨0,13,0⟩ 0 0,.d (.agg [DI nu,.str zc1,.list 3 [.str a,.str s,.str b],.list 4 [DI kn,DI f,DI u,DI m],.str []])] _ _
   refine In.enter (f:=zaq) g.lim rfl rfl ?_
   repeat' ((conv=>whnf);first
   | refine Yz ?_
    | (apply zaz.of;assumption)
    | (refine zez.mk ⟨rfl,rfl,rfl,rfl,rfl,rfl,by dsimp only;omega,by dsimp only;omega⟩ ?_)
    | (refine zej.kinds g rfl ?_)
    | (refine ztt.mk ⟨_,rfl,?_⟩)
    | (refine In.enter (f:=zau) g.lim rfl rfl ?_)
    | (exact hK)
    | fail)
  ·have haft:z6b r ⟨nu,ki,a::s::more,[kn,f,u,m],[]⟩=⟨kn,r.es++[⟨a,ki,s,[],kn,f,u,m⟩],r.rs,r.cs⟩:=by
    rw [z6b,if_pos hent,yg2,if_neg hf]
    rfl
   rw [haft] at hK
   simp only [List.length_append,List.length_cons,List.length_nil,List.flatMap_append,List.flatMap_cons,List.flatMap_nil,mH,bxE] at hK
   change Fc E _ [.d (.list (more.length+1+1) (.str a:: .str s::more.map D.str))] (.d (.list (more.length+1+1) (.str a:: .str s::more.map D.str))) at hc1
   change Fc E _ [.d (.list 4 [DI kn,DI f,DI u,DI m])] (.d (.list 4 [DI kn,DI f,DI u,DI m])) at hc2
   change In E 1 zaq [.ptr ⟨0,13,0⟩ 0 0,.d (.agg [DI nu,.str ki,.list (more.length+1+1) (.str a:: .str s::more.map D.str),.list 4 [DI kn,DI f,DI u,DI m],.str []])] _ _
   rcases hki with rfl|rfl|rfl
   ·refine In.enter (f:=zaq) g.lim rfl rfl ?_
    repeat' ((conv=>whnf);first
    | refine Yz ?_
     | (apply zaz.of;assumption)
     | (refine zez.mk ⟨rfl,rfl,rfl,rfl,rfl,rfl,by dsimp only;omega,by dsimp only;omega⟩ ?_)
     | (refine zej.kinds g rfl ?_)
     | (refine ztt.mk ⟨_,rfl,?_⟩)
     | (refine In.enter (f:=zau) g.lim rfl rfl ?_)
     | (exact hK)
     | fail)
   ·refine In.enter (f:=zaq) g.lim rfl rfl ?_
    repeat' ((conv=>whnf);first
    | refine Yz ?_
     | (apply zaz.of;assumption)
     | (refine zez.mk ⟨rfl,rfl,rfl,rfl,rfl,rfl,by dsimp only;omega,by dsimp only;omega⟩ ?_)
     | (refine zej.kinds g rfl ?_)
     | (refine ztt.mk ⟨_,rfl,?_⟩)
     | (refine In.enter (f:=zau) g.lim rfl rfl ?_)
     | (exact hK)
     | fail)
   ·exact absurd rfl hf
 ·have hc1:=zvg g [a] (by simp) (by simp)
  have hc2:=zvf g [kn] (by simp) (by simp)
  have hml:(r.rs.flatMap Rmv.cells).length=r.rs.length*2:=zay Rmv.cells 2 ym6 r.rs
  clear hs hc ha hask
  have haft:z6b r ⟨nu,zdo,[a],[kn],[]⟩=⟨kn,r.es,r.rs++[⟨a,kn⟩],r.cs⟩:=rfl
  rw [haft] at hK
  simp only [List.length_append,List.length_cons,List.length_nil,List.flatMap_append,List.flatMap_cons,List.flatMap_nil,mH,bxE] at hK
  change Fc E _ [.d (.list 1 [.str a])] (.d (.list 1 [.str a])) at hc1
  change Fc E _ [.d (.list 1 [DI kn])] (.d (.list 1 [DI kn])) at hc2
  change In E 1 zaq [.ptr ⟨0,13,0⟩ 0 0,.d (.agg [DI nu,.str zdo,.list 1 [.str a],.list 1 [DI kn],.str []])] _ _
  refine In.enter (f:=zaq) g.lim rfl rfl ?_
  repeat' ((conv=>whnf);first
  | refine Yz ?_
   | (apply zaz.of;assumption)
   | (refine zez.mk ⟨rfl,rfl,rfl,rfl,rfl,rfl,by dsimp only;omega,by dsimp only;omega⟩ ?_)
   | (refine zej.kinds g rfl ?_)
   | (refine ztt.mk ⟨_,rfl,?_⟩)
   | (refine In.enter (f:=zgg) g.lim rfl rfl ?_)
   | (refine In.enter (f:=zbr) g.lim rfl rfl ?_)
   | (exact hK)
   | fail)
 ·have hc1:=zvg g [a,en] (by simp) (by simp)
  have hc2:=zvf g [kn] (by simp) (by simp)
  have hml:(r.cs.flatMap Cpl.cells).length=r.cs.length*5:=zay Cpl.cells 5 ycq r.cs
  clear hs hc ha hask
  have haft:z6b r ⟨nu,zct,[a,en],[kn],[]⟩=⟨kn,r.es,r.rs,r.cs++[⟨a,en,kn,false,false⟩]⟩:=rfl
  rw [haft] at hK
  simp only [List.length_append,List.length_cons,List.length_nil,List.flatMap_append,List.flatMap_cons,List.flatMap_nil,mH,bxE] at hK
  change Fc E _ [.d (.list 2 [.str a,.str en])] (.d (.list 2 [.str a,.str en])) at hc1
  change Fc E _ [.d (.list 1 [DI kn])] (.d (.list 1 [DI kn])) at hc2
  change In E 1 zaq [.ptr ⟨0,13,0⟩ 0 0,.d (.agg [DI nu,.str zct,.list 2 [.str a,.str en],.list 1 [DI kn],.str []])] _ _
  refine In.enter (f:=zaq) g.lim rfl rfl ?_
  repeat' ((conv=>whnf);first
  | refine Yz ?_
   | (apply zaz.of;assumption)
   | (refine zez.mk ⟨rfl,rfl,rfl,rfl,rfl,rfl,by dsimp only;omega,by dsimp only;omega⟩ ?_)
   | (refine zej.kinds g rfl ?_)
   | (refine ztt.mk ⟨_,rfl,?_⟩)
   | (refine In.enter (f:=zbw) g.lim rfl rfl ?_)
   | (exact hK)
   | fail)
 ·have hc1:=zvg g [a] (by simp) (by simp)
  have hc2:=zvf g [kn,v] (by simp) (by simp)
  have hml:(r.rs.flatMap Rmv.cells).length=r.rs.length*2:=zay Rmv.cells 2 ym6 r.rs
  have hmc:(r.cs.flatMap Cpl.cells).length=r.cs.length*5:=zay Cpl.cells 5 ycq r.cs
  change z2x r a v=0 at hask
  rcases zy6 r.cs a with h|⟨k,hk,h,hnm⟩
  ·rw [z2x,h,if_pos (by decide)] at hask
   omega
  have hgd:r.cs.getD k yli=r.cs[k]:=by simp [List.getD,hk]
  have haft:z6b r ⟨nu,zfl,[a],[kn,v],[]⟩=⟨kn,r.es,if v=1 then r.rs++[⟨r.cs[k].en,kn⟩] else r.rs,r.cs.set k {r.cs[k] with cl:=true,up:=decide (v=1)}⟩:=by
   change (Rgs.mk kn r.es (if v=1 then r.rs++[⟨(r.cs.getD (z6p r.cs a).toNat yli).en,kn⟩] else r.rs) (r.cs.set (z6p r.cs a).toNat {r.cs.getD (z6p r.cs a).toNat yli with cl:=true,up:=decide (v=1)}))=_
   rw [h,Int.toNat_natCast,hgd]
  rw [haft] at hK
  have hq:=zqm g zei (ev++[⟨nu,zfl,[a],[kn,v],[]⟩]) ⟨kn,r.es,r.rs,r.cs⟩ a (by dsimp only;omega)
  rw [show z6p (Rgs.mk kn r.es r.rs r.cs).cs a=k from h,yir,if_pos (by omega)] at hq
  simp only [List.length_append,List.length_cons,List.length_nil,List.flatMap_append,List.flatMap_cons,List.flatMap_nil,mR] at hq
  clear hs hc ha hask haft
  have hp1:patch (r.cs.flatMap Cpl.cells) ((0+((k:Nat):Int).toNat)*5+3) [.bool true]=(r.cs.set k {r.cs[k] with cl:=true}).flatMap Cpl.cells:=by
   rw [Nat.zero_add,Int.toNat_natCast]
   exact zzd Cpl.cells 5 ycq r.cs k 3 hk (by decide) _ _ rfl
  have hm1:((r.cs.set k {r.cs[k] with cl:=true}).flatMap Cpl.cells).length=r.cs.length*5:=by rw [zay Cpl.cells 5 ycq,List.length_set]
  have hk1:k<(r.cs.set k {r.cs[k] with cl:=true}).length:=by rw [List.length_set];exact hk
  have hp2:∀b,patch ((r.cs.set k {r.cs[k] with cl:=true}).flatMap Cpl.cells) ((0+((k:Nat):Int).toNat)*5+4) [.bool b]=(r.cs.set k {r.cs[k] with cl:=true,up:=b}).flatMap Cpl.cells:=by
   intro b
   rw [Nat.zero_add,Int.toNat_natCast]
   have:=zzd Cpl.cells 5 ycq (r.cs.set k {r.cs[k] with cl:=true}) k 4 hk1 (by decide) (.bool b) {r.cs[k] with cl:=true,up:=b} (by rw [List.getElem_set_self];rfl)
   rw [this,List.set_set]
  have hp3:∀b,k<(r.cs.set k {r.cs[k] with cl:=true,up:=b}).length:=fun b=>by rw [List.length_set];exact hk
  have hp4:∀b,(r.cs.set k {r.cs[k] with cl:=true,up:=b})[k]'(hp3 b)={r.cs[k] with cl:=true,up:=b}:=fun b=>List.getElem_set_self _
  change Fc E _ [.d (.list 1 [.str a])] (.d (.list 1 [.str a])) at hc1
  change Fc E _ [.d (.list 2 [DI kn,DI v])] (.d (.list 2 [DI kn,DI v])) at hc2
  change In E 1 zaq [.ptr ⟨0,13,0⟩ 0 0,.d (.agg [DI nu,.str zfl,.list 1 [.str a],.list 2 [DI kn,DI v],.str []])] _ _
  by_cases hv:v=1
  ·rw [if_pos hv,decide_eq_true hv] at hK
   simp only [List.length_append,List.length_cons,List.length_nil,List.flatMap_append,List.flatMap_cons,List.flatMap_nil,List.length_set,mH,bxE] at hK
   refine In.enter (f:=zaq) g.lim rfl rfl ?_
   repeat' ((conv=>whnf);first
   | refine Yz ?_
    | (apply zaz.of;assumption)
    | (refine zez.mk ⟨rfl,rfl,rfl,rfl,rfl,rfl,by dsimp only;omega,by dsimp only;omega⟩ ?_)
    | (refine zej.kinds g rfl ?_)
    | (refine ztt.mk ⟨_,rfl,?_⟩)
    | (refine Cmp.tt hv ?_)
    | (refine In.enter (f:=zbm) g.lim rfl rfl ?_)
    | (refine zlk.of (r':= .ptr ⟨0,12,3⟩ ((0+((k:Nat):Int).toNat)*5) r.cs.length) isH rfl rfl rfl rfl hq rfl rfl rfl ?_)
    | (refine zez.mk ⟨rfl,by omega,rfl⟩ ?_;first |rw [hp1]|rw [hp2])
    | (refine zgz.rec0 ycq k rfl (hp3 true) (by rw [hp4];rfl) ?_)
    | (refine In.enter (f:=zbr) g.lim rfl rfl ?_)
    | (exact hK)
    | fail)
  ·rw [if_neg hv,decide_eq_false hv] at hK
   simp only [List.length_append,List.length_cons,List.length_nil,List.flatMap_append,List.flatMap_cons,List.flatMap_nil,List.length_set,mH,bxE] at hK
   refine In.enter (f:=zaq) g.lim rfl rfl ?_
   repeat' ((conv=>whnf);first
   | refine Yz ?_
    | (apply zaz.of;assumption)
    | (refine zez.mk ⟨rfl,rfl,rfl,rfl,rfl,rfl,by dsimp only;omega,by dsimp only;omega⟩ ?_)
    | (refine zej.kinds g rfl ?_)
    | (refine ztt.mk ⟨_,rfl,?_⟩)
    | (refine Cmp.ff hv ?_)
    | (refine In.enter (f:=zbm) g.lim rfl rfl ?_)
    | (refine zlk.of (r':= .ptr ⟨0,12,3⟩ ((0+((k:Nat):Int).toNat)*5) r.cs.length) isH rfl rfl rfl rfl hq rfl rfl rfl ?_)
    | (refine zez.mk ⟨rfl,by omega,rfl⟩ ?_;first |rw [hp1]|rw [hp2])
    | (refine zgz.rec0 ycq k rfl (hp3 false) (by rw [hp4];rfl) ?_)
    | (refine In.enter (f:=zbr) g.lim rfl rfl ?_)
    | (exact hK)
    | fail)
end
abbrev mS (lv sl:Nat) (ev:List Evt) (r:Rgs):Mem:=[(⟨lv,sl,0⟩,.cells zei [.ref ⟨lv,sl,1⟩ 0 ev.length ev.length,I r.kn,.ref ⟨lv,sl,2⟩ 0 r.es.length r.es.length,.ref ⟨lv,sl,3⟩ 0 r.rs.length r.rs.length,.ref ⟨lv,sl,4⟩ 0 r.cs.length r.cs.length]),
 (⟨lv,sl,1⟩,.row false zae 5 ev.length (ev.flatMap Evt.cells)),(⟨lv,sl,2⟩,.row false zab 8 r.es.length (r.es.flatMap Ent.cells)),(⟨lv,sl,3⟩,.row false zaj 2 r.rs.length (r.rs.flatMap Rmv.cells)),(⟨lv,sl,4⟩,.row true zad 5 r.cs.length (r.cs.flatMap Cpl.cells))]
theorem yht {r:Rgs} {l:List Evt} {k:Nat} (hk:k<l.length):zlg r k (l.drop k)=if zqo r k l[k]≠0 then(rg0,k+1,zqo r k l[k]) else zlg (z6b r l[k]) (k+1) (l.drop (k+1)):=by
 rw [List.drop_eq_getElem_cons hk,ybw]
section
variable {E : Oracle} (g : Good E)
include g
theorem z36 (l:List Evt) (hl:l.length<=1000) (hb:∀e∈l,e.ns.length<=1000000/\e.vs.length<=1000000):
  In E 0 zeg [LE l] [] fun v m'=>((zlg rg0 0 l).2.2=0->v= .tup [.ptr ⟨0,13,0⟩ 0 0,I 0,I 0]/\m'=mH l (zlg rg0 0 l).1)/\((zlg rg0 0 l).2.2≠0->v= .tup [.d .nilp,I (zlg rg0 0 l).2.1,I (zlg rg0 0 l).2.2]):=by
 refine In.enter (f:=zeg) g.lim rfl rfl ?_
 have hml:(l.flatMap Evt.cells).length=l.length*5:=zay Evt.cells 5 evw l
 generalize hR:zlg rg0 0 l=R
 repeat' ((conv=>whnf);first
 | refine Yz ?_
  | fail)
 refine zao.to (zao.by (σ:=List Evt×Rgs) g (fun u=>u.1=l.take u.1.length/\u.1.length<=l.length/\OkR u.2/\u.2.rs.length<=u.1.length/\zlg u.2 u.1.length (l.drop u.1.length)=R)
  (fun u=>[(5,.ptr ⟨0,13,0⟩ 0 0),(14,LE l),(15,I l.length),(16,I u.1.length)]) (fun u=>mH u.1 u.2) (fun u=>l.length-u.1.length) ?_ ([],rg0) ⟨rfl,Nat.zero_le _,ymd,Nat.le_refl _,hR⟩) rfl rfl
 clear hR
 rintro⟨ev,r⟩ ⟨h1,h2,ho,h3,hR⟩ ih
 dsimp only at h1 h2 ho h3 hR ih ⊢
 by_cases hlt:ev.length<l.length
 ·rw [yht hlt] at hR
  have hwin:win (l.flatMap Evt.cells) (((ev.length:Nat):Int).toNat*5) 5=l[ev.length].cells:=by
   rw [Int.toNat_natCast]
   exact zil Evt.cells 5 evw l ev.length hlt
  obtain⟨hb1,hb2⟩:=hb _ (List.getElem_mem hlt)
  have ih:=fun hz:zqo r ev.length l[ev.length]=0=>ih (ev++[l[ev.length]],z6b r l[ev.length]) ⟨by
   rw [List.length_append,List.length_singleton,List.take_succ_eq_append_getElem hlt,<-h1],by
   rw [List.length_append,List.length_singleton];omega,ymc ho hz (by omega),by
   have:=yls r l[ev.length]
   dsimp only
   rw [List.length_append,List.length_singleton];omega,by
   rw [if_neg (fun h=>h hz)] at hR
   rw [List.length_append,List.length_singleton];exact hR⟩ (by rw [List.length_append,List.length_singleton];omega)
  simp only [List.length_append,List.length_cons,List.length_nil] at ih
  generalize l[ev.length]=e at *
  have hce:=z41 g e hb1 hb2
  by_cases hc:yco e=0
  ·rw [hc] at hce
   have hq:=ye3 g zei ev r ho e hc (by omega)
   have hst:zqo r ev.length e=ygs r ev.length e:=by rw [zqo,if_neg (fun h=>h hc)]
   by_cases ha:ygs r ev.length e=0
   ·rw [ha] at hq hst
    have ih:=ih hst
    repeat' ((conv=>whnf);first
    | refine Yz ?_
     | (rw [hwin])
     | (apply zaz.of;assumption)
     | (refine zlk.of (r':=I 0) isH rfl rfl rfl rfl hq rfl rfl rfl ?_)
     | (refine ylz g ev r ho (by omega) e hst (by omega) (slot:=35) ?_)
     | (refine zao.to ih rfl rfl)
     | fail)
   ·rw [hst,if_pos ha] at hR
    generalize ygs r ev.length e=x at *
    subst hR
    repeat' ((conv=>whnf);first
    | refine Yz ?_
     | (rw [hwin])
     | (apply zaz.of;assumption)
     | (refine zlk.of (r':=I x) isH rfl rfl rfl rfl hq rfl rfl rfl ?_)
     | (refine Cmp.ff ha ?_)
     | (exact⟨fun h=>absurd h ha,fun _=>rfl⟩)
     | fail)
  ·have hst:zqo r ev.length e=yco e:=by rw [zqo,if_pos hc]
   rw [hst,if_pos hc] at hR
   generalize yco e=x at *
   subst hR
   repeat' ((conv=>whnf);first
   | refine Yz ?_
    | (rw [hwin])
    | (apply zaz.of;assumption)
    | (refine Cmp.ff hc ?_)
    | (exact⟨fun h=>absurd h hc,fun _=>rfl⟩)
    | fail)
 ·have e1:ev=l:=by rw [h1,List.take_of_length_le (by omega)]
  subst e1
  rw [List.drop_of_length_le (by omega)] at hR
  subst hR
  repeat' ((conv=>whnf);first
  | refine Yz ?_
   | (exact⟨fun _=>⟨rfl,rfl⟩,fun h=>absurd rfl h⟩)
   | fail)
theorem zej.replay {l:List Evt} (hl:l.length<=1000) (hb:∀e∈l,e.ns.length<=1000000/\e.vs.length<=1000000) {cx:Cx} {slot:Nat} {m:Mem} {K:V->Mem->Prop} (hf:Go.Evl.freeK cx.lv slot m=0) (hz:(zlg rg0 0 l).2.2=0)
  (k:K (.tup [.ptr ⟨cx.lv,slot,0⟩ 0 0,I 0,I 0]) (m++mS cx.lv slot l (zlg rg0 0 l).1)):zej E zeg [LE l] cx slot m K:=by
 obtain⟨v,m',h1,h2,_⟩:=(z36 g l hl hb).got
 obtain⟨rfl,rfl⟩:=h2 hz
 refine⟨_,_,(_,m++mS cx.lv slot l (zlg rg0 0 l).1),h1,?_,k⟩
 unfold Evl.settle
 rw [hf]
 rfl
theorem zej.replayNo {l:List Evt} (hl:l.length<=1000) (hb:∀e∈l,e.ns.length<=1000000/\e.vs.length<=1000000) {cx:Cx} {slot:Nat} {m:Mem} {K:V->Mem->Prop} (hz:(zlg rg0 0 l).2.2≠0)
  (k:K (.tup [.d .nilp,I (zlg rg0 0 l).2.1,I (zlg rg0 0 l).2.2]) (m++[])):zej E zeg [LE l] cx slot m K:=by
 obtain⟨v,m',h1,_,h2⟩:=(z36 g l hl hb).got
 obtain rfl:=h2 hz
 exact⟨_,_,(_,m++[]),h1,rfl,k⟩
end
abbrev rgL (l:List Evt):Rgs:=(zlg rg0 0 l).1
abbrev erL (l:List Evt):Int:=(zlg rg0 0 l).2.2
structure yn1 where
 kn:Int
 mi:Int
def yn1.cells (t:yn1):List D:=[DI t.kn,DI t.mi]
section
variable {E : Oracle} (g : Good E)
include g
theorem yml (n:Int):Fc E za1 [I n] (I (rng n 0 99999)):=by
 refine g.fn rfl rfl ?_
 have h:=zr9 g n 0 99999
 repeat' ((conv=>whnf);first
 | refine Yz ?_
  | (apply zaz.of;assumption)
  | (refine Ret.mk rfl)
  | fail)
theorem yg7 (l:List Evt) (hl:l.length<=1000) (hb:∀e∈l,e.ns.length<=1000000/\e.vs.length<=1000000) (fs:List Int) (hfs:fs.length<=1000):
  In E 0 zci [LE l,LI fs] [] fun v m'=>(zbf [erL l,zbf fs]=0->v= .tup [.ptr ⟨0,11,0⟩ 1 0,I 0]/\m'=mS 0 11 l (rgL l))/\(zbf [erL l,zbf fs]≠0->v= .tup [.d .nilp,I (zbf [erL l,zbf fs])]):=by
 have hf:=zox g fs (by omega)
 have hf2:=zie g (erL l) (zbf fs)
 refine In.enter (f:=zci) g.lim rfl rfl ?_
 by_cases hz:erL l=0
 ·have hr:=@zej.replay E g l hl hb
  rw [hz] at hf2 ⊢
  have e0:zbf [0,zbf fs]=zbf fs:=by
   have h1:∀x:Int,zbf [x]=x:=fun x=>by
    by_cases h:x=0
    ·subst h;rfl
    ·unfold zbf;rw [if_neg h]
   exact h1 _
  rw [e0] at hf2 ⊢
  generalize zbf fs=x at *
  by_cases hx:x=0
  ·subst hx
   repeat' ((conv=>whnf);first
   | refine Yz ?_
    | (refine hr rfl hz ?_)
    | (apply zaz.of;assumption)
    | (exact⟨fun _=>⟨rfl,rfl⟩,fun h=>absurd rfl h⟩)
    | fail)
  ·repeat' ((conv=>whnf);first
  | refine Yz ?_
    | (refine hr rfl hz ?_)
    | (apply zaz.of;assumption)
    | (refine Cmp.ff hx ?_)
    | (exact⟨fun h=>absurd h hx,fun _=>rfl⟩)
    | fail)
 ·have hr:=@zej.replayNo E g l hl hb
  have e0:zbf [erL l,zbf fs]=erL l:=by unfold zbf;rw [if_neg hz]
  rw [e0] at hf2 ⊢
  generalize zbf fs=x at *
  unfold erL at *
  generalize (zlg rg0 0 l).2.2=z at *
  repeat' ((conv=>whnf);first
  | refine Yz ?_
   | (refine hr hz ?_)
   | (apply zaz.of;assumption)
   | (refine Cmp.ff hz ?_)
   | (exact⟨fun h=>absurd h hz,fun _=>rfl⟩)
   | fail)
theorem zej.asked {l:List Evt} (hl:l.length<=1000) (hb:∀e∈l,e.ns.length<=1000000/\e.vs.length<=1000000) {fs:List Int} (hfs:fs.length<=1000) {cx:Cx} {slot:Nat} {m:Mem} {K:V->Mem->Prop} (hf:Go.Evl.freeK cx.lv slot m=0) (hz:zbf [erL l,zbf fs]=0)
  (k:K (.tup [.ptr ⟨cx.lv,slot,0⟩ 1 0,I 0]) (m++mS cx.lv slot l (rgL l))):zej E zci [LE l,LI fs] cx slot m K:=by
 obtain⟨v,m',h1,h2,_⟩:=(yg7 g l hl hb fs hfs).got
 obtain⟨rfl,rfl⟩:=h2 hz
 refine⟨_,_,(_,m++mS cx.lv slot l (rgL l)),h1,?_,k⟩
 unfold Evl.settle
 rw [hf]
 rfl
end
theorem zjn (n:Nte):n.cells.length=4:=rfl
abbrev LNt (l:List Nte):V:= .d (.list l.length (l.flatMap Nte.cells))
abbrev Ntv (n:Nte):V:= .d (.agg n.cells)
def zx6 (b:UInt8):Bool:=decide (b.toNat<32\/126<b.toNat)
def ztv (n:Nte):Int:=zbf [if !zdt n.dk then 8 else 0,rng n.nu 1 999999999,rng n.da 0 99999,if n.tx=[]\/80<n.tx.length\/n.tx.any zx6=true then 1 else 0]
section
variable {E : Oracle} (g : Good E)
include g
theorem yi7 (c:Int):Fc E zd2 [.d (.int .i32 c)] (B (decide (c<32\/126<c))):=by
 refine g.fn rfl rfl ?_
 repeat' ((conv=>whnf);first
 | refine Yz ?_
  | (refine Cmp.mk (fun h=> ?_) (fun h=> ?_))|(refine Rem.any (by omega) (fun r hr he=> ?_))|(refine Br.mk (fun h=> ?_) (fun h=> ?_))
  | (refine Ret.mk ?_))
 all_goals simp_all
theorem ymj (s:List UInt8):Fc E zcw [S s,.d (.fn zd2)] (B (s.any zx6)):=by
 refine yfk g (fun b hb=> ?_) (fun c hc=> ?_) (fun b hb=> ?_)
 ·have:=yi7 g b.toNat
  have e:decide ((b.toNat:Int)<32\/126<(b.toNat:Int))=zx6 b:=by
   unfold zx6
   exact decide_eq_decide.2 (by omega)
  rw [e] at this
  exact this
 ·have:=yi7 g c
  rw [decide_eq_true (by omega)] at this
  exact this
 ·unfold zx6
  exact decide_eq_true (by omega)
theorem ymk (n:Nte):Fc E zes [Ntv n] (I (ztv n)):=by
 obtain⟨dk,nu,da,tx⟩:=n
 have h1:=yaj g dk
 have h2:=zr9 g nu 1 999999999
 have h3:=yml g da
 have h4:=ymj g tx
 have h5:=fun b=>zn8 g b 1
 have h6:=zox g [if !zdt dk then 8 else 0,rng nu 1 999999999,rng da 0 99999,if tx=[]\/80<tx.length\/tx.any zx6=true then 1 else 0] (by simp)
 have h7:=h5 (decide (tx=[]\/80<tx.length\/tx.any zx6=true))
 have e7:(if decide (tx=[]\/80<tx.length\/tx.any zx6=true)=true then(1:Int) else 0)=if tx=[]\/80<tx.length\/tx.any zx6=true then 1 else 0:=by simp only [decide_eq_true_eq]
 rw [e7] at h7
 show Fc E zes [.d (.agg [.str dk,DI nu,DI da,.str tx])] (I (zbf [if !zdt dk then 8 else 0,rng nu 1 999999999,rng da 0 99999,if tx=[]\/80<tx.length\/tx.any zx6=true then 1 else 0]))
 refine g.fn rfl rfl ?_
 generalize (if !zdt dk then(8:Int) else 0)=a1 at *
 generalize rng nu 1 999999999=a2 at *
 generalize rng da 0 99999=a3 at *
 by_cases c1:tx=[]
 ·rw [decide_eq_true (.inl c1),if_pos (.inl c1)] at h7
  rw [if_pos (.inl c1)] at h6 ⊢
  repeat' ((conv=>whnf);first
  | refine Yz ?_
   | (apply zaz.of;assumption)
   | (refine Cmp.tt c1 ?_)
   | (refine Ret.mk rfl)
   | fail)
 ·by_cases c2:80<tx.length
  ·rw [decide_eq_true (.inr (.inl c2)),if_pos (.inr (.inl c2))] at h7
   rw [if_pos (.inr (.inl c2))] at h6 ⊢
   repeat' ((conv=>whnf);first
   | refine Yz ?_
    | (apply zaz.of;assumption)
    | (refine Cmp.ff c1 ?_)
    | (refine Ret.mk rfl)
    | fail)
  ·cases c3:tx.any zx6 with
   | true=>
    rw [c3] at h4 h6 h7
    rw [decide_eq_true (.inr (.inr rfl)),if_pos (.inr (.inr rfl))] at h7
    rw [if_pos (.inr (.inr rfl))] at h6 ⊢
    repeat' ((conv=>whnf);first
    | refine Yz ?_
     | (apply zaz.of;assumption)
     | (refine Cmp.ff c1 ?_)
     | (refine Ret.mk rfl)
     | fail)
   | false=>
    rw [c3] at h4 h6 h7
    have c4:¬(tx=[]\/80<tx.length\/false=true):=by
     rintro(h|h|h)
     ·exact c1 h
     ·exact c2 h
     ·cases h
    rw [decide_eq_false c4,if_neg c4] at h7
    rw [if_neg c4] at h6 ⊢
    repeat' ((conv=>whnf);first
    | refine Yz ?_
     | (apply zaz.of;assumption)
     | (refine Cmp.ff c1 ?_)
     | (refine Ret.mk rfl)
     | fail)
end
def zrj (dk:List UInt8) (nu:Int):List Nte->Option Nte
 | []=>none
 | o::r=>if dk=o.dk/\nu=o.nu then some o else zrj dk nu r
def zf7 (cs:List Nte):List (D×V):=cs.map fun n=>(.agg [.str n.dk,DI n.nu],Ntv n)
def z52 (cs:List Nte) (n:Nte):Bool:=(zrj n.dk n.nu cs).any fun o=>decide (o≠n)
def z8y (cs:List Nte) (n:Nte):Int:=zbf [ztv n,if z52 cs n=true then 29 else 0]
def z6a (cs:List Nte) (n:Nte):List Nte:=if(zrj n.dk n.nu cs).isSome=true then cs else cs++[n]
def z54 (cs:List Nte):List Nte->Int
 | []=>0
 | n::r=>if z8y cs n=0 then z54 (z6a cs n) r else z8y cs n
def zdz (l:List Nte):List Nte:=l.foldl z6a []
def zdc (l:List Nte):Int:=if 256<l.length then 5 else z54 [] l
theorem z09 (a b:List UInt8) (x y:Int):eqD (.agg [.str a,DI x]) (.agg [.str b,DI y])=some (decide (a=b/\x=y)):=by
 simp only [eqD,eqL,Bool.and_true,if_true,Option.some.injEq]
 rw [Bool.beq_eq_decide_eq,Bool.decide_and]
theorem zwv (dk:List UInt8) (nu:Int):∀cs:List Nte,zfu (.agg [.str dk,DI nu]) (zf7 cs)=some ((zrj dk nu cs).map fun o=>Ntv o)
 | []=>rfl
 | o::r=>by
  have ih:=zwv dk nu r
  unfold zf7 at ih ⊢
  rw [List.map_cons,zfu,z09]
  unfold zrj
  by_cases h:dk=o.dk/\nu=o.nu
  ·rw [decide_eq_true h,if_pos h];rfl
  ·rw [decide_eq_false h,if_neg h];exact ih
theorem yao (n:Nte):∀cs:List Nte,zrj n.dk n.nu cs=none->zmu (.agg [.str n.dk,DI n.nu]) (Ntv n) (zf7 cs)=some (zf7 (cs++[n]))
 | [],_=>rfl
 | o::r,hn=>by
  unfold zrj at hn
  by_cases h:n.dk=o.dk/\n.nu=o.nu
  ·rw [if_pos h] at hn;cases hn
  ·rw [if_neg h] at hn
   have ih:=yao n r hn
   unfold zf7 at ih ⊢
   rw [List.map_cons,zmu,z09,decide_eq_false h]
   simp only [ih,Option.map_some,List.cons_append,List.map_cons]
theorem yap (n:Nte):∀cs:List Nte,zrj n.dk n.nu cs=some n->zmu (.agg [.str n.dk,DI n.nu]) (Ntv n) (zf7 cs)=some (zf7 cs)
 | [],h=>by cases h
 | o::r,hn=>by
  unfold zrj at hn
  by_cases h:n.dk=o.dk/\n.nu=o.nu
  ·rw [if_pos h] at hn
   obtain rfl:=Option.some.inj hn
   unfold zf7
   rw [List.map_cons,zmu,z09,decide_eq_true h]
  ·rw [if_neg h] at hn
   have ih:=yap n r hn
   unfold zf7 at ih ⊢
   rw [List.map_cons,zmu,z09,decide_eq_false h]
   simp only [ih,Option.map_some]
theorem zcs:∀cs:List Nte,Evl.idsM (zf7 cs)=[]
 | []=>rfl
 | _::r=>by
  show []++Evl.idsM (zf7 r)=[]
  rw [zcs r];rfl
theorem z3m (l:List Nte) (k:Nat) (h:k<l.length):zdz (l.take (k+1))=z6a (zdz (l.take k)) l[k]:=by
 unfold zdz
 rw [List.take_add_one,List.getElem?_eq_getElem h,List.foldl_append]
 rfl
section
variable {E : Oracle} (g : Good E)
include g
theorem zxv (l:List Nte) (hl:l.length<=1048576):In E 0 zb8 [LNt l] [] fun v m'=>(zdc l=0->v= .tup [.mp ⟨0,14,0⟩,I 0]/\Evl.look m' ⟨0,14,0⟩=some (.map (zf7 (zdz l))))/\(zdc l≠0->v= .tup [.d .nilm,I (zdc l)]):=by
 refine In.enter (f:=zb8) g.lim rfl rfl ?_
 by_cases hn:256<l.length
 ·have hc:zdc l=5:=by unfold zdc;rw [if_pos hn]
  rw [hc]
  repeat' ((conv=>whnf);first
  | refine Yz ?_
   | (refine⟨fun h=>absurd h (by decide),fun _=>rfl⟩))
 ·have hc:zdc l=z54 [] l:=by unfold zdc;rw [if_neg hn]
  rw [hc]
  generalize hT:z54 [] l=T
  repeat' ((conv=>whnf);first
  | refine Yz ?_)
  refine zao.to (zao.upP g (fun k=>[(4,.mp ⟨0,14,0⟩),(15,LNt l),(16,I l.length),(17,I k)])
   (fun k=>[(⟨0,14,0⟩,.map (zf7 (zdz (l.take k))))]) (fun k=>z54 (zdz (l.take k)) (l.drop k)=T) l.length (fun k hk hP ih=> ?_) 0 (Nat.zero_le _) hT) rfl rfl
  by_cases hlt:k<l.length
  ·have ih:=ih hlt
   have h1:=ymk g l[k]
   have h2:∀b,Fc E zak [B b,I 29] (I (if b=true then 29 else 0)):=fun b=>zn8 g b 29
   have h3:∀b,Fc E za0 [.d (.list 2 [DI (ztv l[k]),DI b])] (I (zbf [ztv l[k],b])):=fun b=>zox g [ztv l[k],b] (by simp)
   rw [z3m l k hlt] at ih
   rw [List.drop_eq_getElem_cons hlt] at hP
   unfold z54 at hP
   generalize zdz (l.take k)=cs at *
   have hf:=zwv l[k].dk l[k].nu cs
   have s1:=yao l[k] cs
   have s2:=yap l[k] cs
   have hcn:z8y cs l[k]=zbf [ztv l[k],if z52 cs l[k]=true then 29 else 0]:=rfl
   unfold z52 at hcn
   unfold z6a at ih hP
   cases hg:zrj l[k].dk l[k].nu cs with
   | none=>
    rw [hg] at hf hcn ih hP
    have s1:=s1 hg
    simp only [Option.any_none,Bool.false_eq_true,if_false,Option.isSome_none,Option.map_none] at hf hcn ih hP
    have h2:=h2 false
    have h3:=h3 0
    simp only [Bool.false_eq_true,if_false] at h2
    rw [<-hcn] at h3
    by_cases hz:z8y cs l[k]=0
    ·rw [if_pos hz] at hP
     have ih:=ih hP
     rw [hz] at h3
     repeat' ((conv=>whnf);first
     | refine Yz ?_
      | (apply zaz.of;assumption)
      | (refine zf8.rec zjn k rfl hlt ?_)
      | (refine ztt.mk ⟨_,hf,?_⟩)
      | (refine ylr.mk ⟨_,s1,?_⟩)
      | (simp only [Evl.idsAll,Evl.idsO,zcs,List.nil_append])
      | (refine zao.to ih rfl rfl)
      | fail)
    ·rw [if_neg hz] at hP
     rw [<-hP]
     repeat' ((conv=>whnf);first
     | refine Yz ?_
      | (apply zaz.of;assumption)
      | (refine zf8.rec zjn k rfl hlt ?_)
      | (refine ztt.mk ⟨_,hf,?_⟩)
      | (refine Cmp.tt hz ?_)
      | (exact⟨fun h=>absurd h hz,fun _=>rfl⟩)
      | fail)
   | some o=>
    rw [hg] at hf hcn ih hP
    simp only [Option.any_some,Option.isSome_some,if_true,Option.map_some] at hf hcn ih hP
    by_cases ho:o=l[k]
    ·subst ho
     have s2:=s2 hg
     have h2:=h2 false
     have h3:=h3 0
     simp only [ne_eq,not_true_eq_false,decide_false,Bool.false_eq_true,if_false] at h2 hcn
     rw [<-hcn] at h3
     by_cases hz:z8y cs l[k]=0
     ·rw [if_pos hz] at hP
      have ih:=ih hP
      rw [hz] at h3
      repeat' ((conv=>whnf);first
      | refine Yz ?_
       | (apply zaz.of;assumption)
       | (refine zf8.rec zjn k rfl hlt ?_)
       | (refine ztt.mk ⟨_,hf,?_⟩)
       | (refine Cmp.tt ⟨rfl,rfl,rfl,rfl⟩ ?_)
       | (refine ylr.mk ⟨_,s2,?_⟩)
       | (simp only [Evl.idsAll,Evl.idsO,zcs,List.nil_append])
       | (refine zao.to ih rfl rfl)
       | fail)
     ·rw [if_neg hz] at hP
      rw [<-hP]
      repeat' ((conv=>whnf);first
      | refine Yz ?_
       | (apply zaz.of;assumption)
       | (refine zf8.rec zjn k rfl hlt ?_)
       | (refine ztt.mk ⟨_,hf,?_⟩)
       | (refine Cmp.tt ⟨rfl,rfl,rfl,rfl⟩ ?_)
       | (refine Cmp.tt hz ?_)
       | (exact⟨fun h=>absurd h hz,fun _=>rfl⟩)
       | fail)
    ·have h2:=h2 true
     have h3:=h3 29
     simp only [ho,ne_eq,not_false_eq_true,decide_true,if_true] at h2 hcn
     rw [<-hcn] at h3
     have hne:¬(o.dk=l[k].dk/\o.nu=l[k].nu/\o.da=l[k].da/\o.tx=l[k].tx):=fun⟨a,b,c,d⟩=>ho (by
      cases o
      generalize l[k]=n at *
      cases n
      simp only at a b c d
      rw [a,b,c,d])
     have hz:z8y cs l[k]≠0:=by
      rw [hcn]
      intro h
      rw [zcx] at h
      exact absurd (h 29 (by simp)) (by decide)
     rw [if_neg hz] at hP
     rw [<-hP]
     repeat' ((conv=>whnf);first
     | refine Yz ?_
      | (apply zaz.of;assumption)
      | (refine zf8.rec zjn k rfl hlt ?_)
      | (refine ztt.mk ⟨_,hf,?_⟩)
      | (refine Cmp.ff hne ?_)
      | (refine Cmp.tt hz ?_)
      | (exact⟨fun h=>absurd h hz,fun _=>rfl⟩)
      | fail)
  ·obtain rfl:k=l.length:=by omega
   rw [List.drop_length] at hP
   have hz:T=0:=hP.symm
   subst hz
   rw [List.take_length]
   repeat' ((conv=>whnf);first
   | refine Yz ?_
    | (exact⟨fun _=>⟨rfl,rfl⟩,fun h=>absurd rfl h⟩))
end
end Go.Proofs.YtmbofbehkalgkaaGreatDoor.Co
