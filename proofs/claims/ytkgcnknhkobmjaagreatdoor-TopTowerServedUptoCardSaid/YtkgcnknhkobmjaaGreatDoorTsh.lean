/-
  TopTowerServed: what its law leans on, part 8.
-/
import Derived.Laws.RangeAny
import Derived.Lib.SplitLaws
import Derived.Test.YtkgcnknhkobmjaaGreatDoorEvX
import Derived.Test.YtkgcnknhkobmjaaGreatDoorRead
import Derived.Test.YtkgcnknhkobmjaaGreatDoorSpBase
import Derived.Test.YtkgcnknhkobmjaaGreatDoorTsg
namespace Go.Proofs.YtkgcnknhkobmjaaGreatDoor.Co
open Go Go.Evl
set_option maxHeartbeats 32000000
set_option maxRecDepth 100000
theorem yg8 {kind:List UInt8} {ls:List Lnt} {k:Nat} (h:k<ls.length):zkt kind (zdq ls k) k (ls.drop k)=if lnE kind (zdq ls k) ls[k]=0 then zkt kind (zdq ls (k+1)) (k+1) (ls.drop (k+1)) else(k,lnE kind (zdq ls k) ls[k]):=by
 rw [List.drop_eq_getElem_cons h,zkt,yhz h]
theorem yjr {kind:List UInt8} {ls:List Lnt}:zkt kind (zdq ls ls.length) ls.length (ls.drop ls.length)=if zj7 (zdq ls ls.length) then(ls.length-1,11) else(0,0):=by
 rw [List.drop_length,zkt]
open Go Go.Evl
open Go Go.Evl
section
variable {E : Oracle} (g : Good E)
include g
theorem yaq (kind:List UInt8) (ls:List Lnt) (hl:ls.length<=1000000):Fc E zh4 [S kind,LL ls] (.tup [I ((zkt kind none 0 ls).1:Nat),I (zkt kind none 0 ls).2]):=by
 refine g.fn rfl rfl ?_
 repeat' ((conv=>whnf);first
 | refine Yz ?_)
 refine zaf.to (zaf.upP g (fun k=>[(0,S kind),(1,LL ls),(12,LL ls),(13,I ls.length),(14,I k)]) (fun _=>[]) (fun k=>zkt kind (zdq ls k) k (ls.drop k)=zkt kind none 0 ls) ls.length (fun k hk hp ih=> ?_) 0 (Nat.zero_le _) rfl) rfl rfl
 by_cases hlt:k<ls.length
 ·have hs:=yg8 (kind:=kind) hlt
  refine z4o g kind ls k hlt hl (fun _ _=>rfl) (fun hz=> ?_) (fun hz=> ?_)
  ·rw [if_neg hz,hp] at hs
   rw [hs]
  ·rw [if_pos hz,hp] at hs
   exact ih hlt hs.symm
 ·obtain rfl:k=ls.length:=by omega
  rw [<-hp,yjr]
  by_cases h0:ls.length=0
  ·have hz:zdq ls ls.length=none:=if_pos h0
   rw [hz]
   repeat' ((conv=>whnf);first
   | refine Yz ?_
    | (refine Ret.mk rfl))
  ·have hlp:ls.length-1<ls.length:=by omega
   have hz:zdq ls ls.length=some ls[ls.length-1]:=by simp [zdq,h0,hlp]
   rw [hz]
   by_cases hC:ls[ls.length-1].ac=[67]
   ·have ho:zj7 (some ls[ls.length-1])=true:=decide_eq_true hC
    rw [ho]
    repeat' ((conv=>whnf);first
    | refine Yz ?_
     | (refine zg4.rec Lnt.cells_length (ls.length-1) (by omega) hlp rfl ?_)
     | (refine Cmp.tt hC ?_)
     | (refine Ret.mk ?_))
    rw [if_pos rfl,show ((ls.length:Int)-1)=((ls.length-1:Nat):Int) by omega]
   ·have ho:zj7 (some ls[ls.length-1])=false:=decide_eq_false hC
    rw [ho]
    repeat' ((conv=>whnf);first
    | refine Yz ?_
     | (refine zg4.rec Lnt.cells_length (ls.length-1) (by omega) hlp rfl ?_)
     | (refine Cmp.ff hC ?_)
     | (refine Ret.mk rfl))
omit g in
theorem ynt (m:Mst):ztk m=if zap [if(!ykr m.ki)=true then 13 else 0,zz1 m.ai m.se m.da,if 64<m.ls.length then 5 else 0]=0 then(zkt m.ki none 0 m.ls).2 else zap [if(!ykr m.ki)=true then 13 else 0,zz1 m.ai m.se m.da,if 64<m.ls.length then 5 else 0]:=by
 unfold ztk
 generalize (if(!ykr m.ki)=true then(13:Int) else 0)=a
 generalize zz1 m.ai m.se m.da=b
 generalize (if 64<m.ls.length then(5:Int) else 0)=c
 generalize (zkt m.ki none 0 m.ls).2=d
 by_cases ha:a=0<;>by_cases hb:b=0<;>by_cases hc:c=0<;>by_cases hd:d=0<;>simp [zap,ha,hb,hc,hd]
theorem ztr (m:Mst) (hl:m.ls.length<=1000000):Fc E zgv [Msv m] (I (ztk m)):=by
 refine g.fn rfl rfl ?_
 have h1:=ydn g m.ki
 have h2:=z3f g m.ai m.se m.da
 have h3:=yaq g m.ki m.ls hl
 rw [ynt]
 generalize zz1 m.ai m.se m.da=b at *
 generalize ykr m.ki=a at *
 by_cases hn:64<m.ls.length
 ·rw [if_pos hn]
  by_cases hz:zap [if(!a)=true then 13 else 0,b,5]=0
  ·rw [if_pos hz]
   repeat' ((conv=>whnf);first
   | refine Yz ?_
    | (apply zae.of;assumption)
    | (refine zae.of (za7 g _ _) ?_)
    | (refine zae.of (zbx g _ _ _) ?_)
    | (refine Cmp.tt hz ?_)
    | (refine Ret.mk rfl))
  ·rw [if_neg hz]
   repeat' ((conv=>whnf);first
   | refine Yz ?_
    | (apply zae.of;assumption)
    | (refine zae.of (za7 g _ _) ?_)
    | (refine zae.of (zbx g _ _ _) ?_)
    | (refine Cmp.ff hz ?_)
    | (refine Ret.mk rfl))
 ·rw [if_neg hn]
  by_cases hz:zap [if(!a)=true then 13 else 0,b,0]=0
  ·rw [if_pos hz]
   repeat' ((conv=>whnf);first
   | refine Yz ?_
    | (apply zae.of;assumption)
    | (refine zae.of (za7 g _ _) ?_)
    | (refine zae.of (zbx g _ _ _) ?_)
    | (refine Cmp.tt hz ?_)
    | (refine Ret.mk rfl))
  ·rw [if_neg hz]
   repeat' ((conv=>whnf);first
   | refine Yz ?_
    | (apply zae.of;assumption)
    | (refine zae.of (za7 g _ _) ?_)
    | (refine zae.of (zbx g _ _ _) ?_)
    | (refine Cmp.ff hz ?_)
    | (refine Ret.mk rfl))
end
structure Rst where
 nm:List UInt8
 gr:Bool
 mi:Int
def Rst.cells (r:Rst):List D:=[.str r.nm,.bool r.gr,DI r.mi]
theorem Rst.cells_length (r:Rst):r.cells.length=3:=rfl
abbrev LR (rs:List Rst):V:= .d (.list rs.length (rs.flatMap Rst.cells))
def yoq (l:List Rst):List (List UInt8):=l.map (·.nm)
theorem z99 {l:List Rst} {k:Nat} (h:k<l.length):yoq (l.take (k+1))=yoq (l.take k)++[l[k].nm]:=by
 unfold yoq
 rw [List.take_add_one,List.getElem?_eq_getElem h,List.map_append]
 rfl
def yt1 (seen:List (List UInt8)) (r:Rst):Int:=zap [nmE r.nm,rng r.mi 0 (if r.gr=true then 1439 else 0),if r.nm∈seen then 9 else 0]
def zwl (seen:List (List UInt8)):List Rst->Int
 | []=>0
 | x::r=>if yt1 seen x=0 then zwl (seen++[x.nm]) r else yt1 seen x
def z49 (l:List Rst):Int:=if 64<l.length then 5 else zwl [] l
def cbG:List Rqt->List Rst->Int
 | q::a,r::b=>if r.nm=q.nm then cbG a b else 10
 | _,_=>0
def ynr (l:List Rqt) (rs:List Rst):Int:=zap [zj8 l,z49 rs,if l.length=rs.length then 0 else 2]
def z4e (l:List Rqt) (rs:List Rst):Int:=if ynr l rs=0 then cbG l rs else ynr l rs
def ycw (q:Rqt) (m:Int):Rqt:={q with mi:=m}
def z3w (q:Rqt) (r:Rst):Lnt:=if r.gr=true then(if r.mi=q.mi then⟨[75],q⟩ else⟨[79],ycw q r.mi⟩) else⟨[85],q⟩
def ybi (l:List Rqt) (rs:List Rst):List Lnt:=List.zipWith z3w l rs
theorem yje {l:List Rqt} {rs:List Rst} {k:Nat} (h1:k<l.length) (h2:k<rs.length):ybi (l.take (k+1)) (rs.take (k+1))=ybi (l.take k) (rs.take k)++[z3w l[k] rs[k]]:=by
 unfold ybi
 rw [List.take_add_one,List.getElem?_eq_getElem h1,List.take_add_one,List.getElem?_eq_getElem h2,List.zipWith_append (by simp;omega)]
 rfl
theorem yte {l:List Rqt} {rs:List Rst} {k:Nat} (h1:k<l.length) (h2:k<rs.length):cbG (l.drop k) (rs.drop k)=if rs[k].nm=l[k].nm then cbG (l.drop (k+1)) (rs.drop (k+1)) else 10:=by
 rw [List.drop_eq_getElem_cons h1,List.drop_eq_getElem_cons h2,cbG]
open Go Go.Evl
theorem yeu:∀(l:List Rqt) (rs:List Rst),l.length=rs.length->cbG l rs=0->∀(k:Nat) (h1:k<l.length) (h2:k<rs.length),rs[k].nm=l[k].nm
 | [],_,_,_=>by simp
 | _::_,[],h,_=>by simp at h
 | q::a,r::b,h,hc=>by
  rw [cbG] at hc
  by_cases e:r.nm=q.nm
  ·rw [if_pos e] at hc
   intro k h1 h2
   cases k with
   | zero=>exact e
   | succ k=>exact yeu a b (by simpa using h) hc k (by simpa using h1) (by simpa using h2)
  ·rw [if_neg e] at hc
   cases hc
structure ys4 (l:List Rqt) (rs:List Rst):Prop where
 hq:zj8 l=0
 hr:z49 rs=0
 ln:l.length=rs.length
 nm:∀(k:Nat) (h1:k<l.length) (h2:k<rs.length),rs[k].nm=l[k].nm
theorem yg7 {l:List Rqt} {rs:List Rst} (h:z4e l rs=0):ys4 l rs:=by
 unfold z4e at h
 by_cases hz:ynr l rs=0
 ·rw [if_pos hz] at h
  unfold ynr at hz
  rw [za5] at hz
  simp only [List.mem_cons,List.not_mem_nil,or_false,forall_eq_or_imp,forall_eq] at hz
  have hl:l.length=rs.length:=Decidable.byContradiction fun hn=>by
   have:=hz.2.2
   rw [if_neg hn] at this
   cases this
  exact⟨hz.1,hz.2.1,hl,yeu l rs hl h⟩
 ·rw [if_neg hz] at h
  exact absurd h hz
section
variable {E : Oracle} (g : Good E)
include g
theorem z4q (l:List Rst) (hl:l.length<=1000000):Fc E zgw [LR l] (I (z49 l)):=by
 refine g.fn rfl rfl ?_
 unfold z49
 by_cases hn:64<l.length
 ·rw [if_pos hn]
  repeat' ((conv=>whnf);first
  | refine Yz ?_
   | (refine Ret.mk rfl))
 ·rw [if_neg hn]
  generalize hR:zwl [] l=R
  repeat' ((conv=>whnf);first
  | refine Yz ?_)
  refine zaf.to (zaf.upP g (fun k=>[(3,.mp ⟨0,11,0⟩),(12,LR l),(13,I l.length),(14,I k)]) (fun k=>[(⟨0,11,0⟩,.map (z7j (yoq (l.take k))))]) (fun k=>zwl (yoq (l.take k)) (l.drop k)=R) l.length (fun k hk h0 ih=> ?_) 0 (Nat.zero_le _) hR) rfl rfl
  by_cases hlt:k<l.length
  ·rw [List.drop_eq_getElem_cons hlt,zwl,<-z99 hlt,yt1] at h0
   have ih:=ih hlt
   have hf:=z14 l[k].nm (yoq (l.take k))
   have hc:=ydq g l[k].nm
   have hs:=fun hd:l[k].nm∉yoq (l.take k)=>z8f l[k].nm (yoq (l.take k)) hd
   rw [<-z99 hlt] at hs
   have hw:∀b,l[k].gr=b->Fc E zcb [I l[k].mi,I 0,I (if b=true then 1439 else 0)] (I (rng l[k].mi 0 (if l[k].gr=true then 1439 else 0))):=fun b hb=>by rw [hb];exact z3h g _ _ _
   generalize hb:l[k].gr=b at *
   have hw:=hw b rfl
   generalize hrg:rng l[k].mi 0 (if b=true then 1439 else 0)=rg at *
   by_cases hd:l[k].nm∈yoq (l.take k)
   ·rw [if_pos hd] at hf h0
    have hz:¬zap [nmE l[k].nm,rg,9]=0:=fun h=>by
     have:=(za5 _).1 h 9 (by simp)
     cases this
    rw [if_neg hz] at h0
    rw [<-h0]
    clear hrg hs ih h0
    cases b
    all_goals repeat' ((conv=>whnf);first
    | refine Yz ?_
     | (refine zal.rec Rst.cells_length k rfl hlt ?_)
     | (rw [hb])
     | (refine zpq.mk ⟨_,hf,?_⟩)
     | (refine zae.of hc ?_)
     | (refine zae.of hw ?_)
     | (refine zae.of (za7 g _ _) ?_)
     | (refine zae.of (zbx g _ _ _) ?_)
     | (refine Cmp.ff hz ?_)
     | (refine Ret.mk rfl))
   ·rw [if_neg hd] at hf h0
    have hs:=hs hd
    by_cases hz:zap [nmE l[k].nm,rg,0]=0
    ·rw [if_pos hz] at h0
     have ih:=ih h0
     clear hrg h0
     cases b
     all_goals repeat' ((conv=>whnf);first
     | refine Yz ?_
      | (refine zal.rec Rst.cells_length k rfl hlt ?_)
      | (rw [hb])
      | (refine zpq.mk ⟨_,hf,?_⟩)
      | (refine yi1.mk ⟨_,hs,?_⟩)
      | (refine zae.of hc ?_)
      | (refine zae.of hw ?_)
      | (refine zae.of (za7 g _ _) ?_)
      | (refine zae.of (zbx g _ _ _) ?_)
      | (refine Cmp.tt hz ?_)
      | (simp only [Evl.idsAll,Evl.idsO,z7c,List.nil_append])
      | (refine zaf.to ih rfl rfl))
    ·rw [if_neg hz] at h0
     rw [<-h0]
     clear hrg hs ih h0
     cases b
     all_goals repeat' ((conv=>whnf);first
     | refine Yz ?_
      | (refine zal.rec Rst.cells_length k rfl hlt ?_)
      | (rw [hb])
      | (refine zpq.mk ⟨_,hf,?_⟩)
      | (refine zae.of hc ?_)
      | (refine zae.of hw ?_)
      | (refine zae.of (za7 g _ _) ?_)
      | (refine zae.of (zbx g _ _ _) ?_)
      | (refine Cmp.ff hz ?_)
      | (refine Ret.mk rfl))
  ·rw [List.drop_eq_nil_of_le (by omega),zwl] at h0
   rw [<-h0]
   repeat' ((conv=>whnf);first
   | refine Yz ?_
    | (refine Ret.mk rfl))
theorem ydl (l:List Rqt) (rs:List Rst) (hl:l.length<=1000000) (hr:rs.length<=1000000):Fc E zis [LQ l,LR rs] (I (z4e l rs)):=by
 have h1:=zm3 g l hl
 have h2:=z4q g rs hr
 have h3:(if l.length=rs.length then(0:Int) else 2)=if(!decide (l.length=rs.length))=true then 2 else 0:=by
  by_cases h:l.length=rs.length<;>simp [h]
 unfold z4e
 refine g.fn rfl rfl ?_
 by_cases hz:ynr l rs=0
 ·rw [if_pos hz]
  unfold ynr at hz
  have hn:l.length=rs.length:=Decidable.byContradiction fun hn=>by
   rw [if_neg hn,za5] at hz
   exact absurd (hz 2 (by simp)) (by decide)
  rw [if_pos hn] at hz
  generalize hR:cbG l rs=R
  repeat' ((conv=>whnf);first
  | refine Yz ?_
   | (apply zae.of;assumption)
   | (refine zae.of (za7 g _ _) ?_)
   | (refine zae.of (zbx g _ _ _) ?_)
   | (refine Cmp.tt hz ?_))
  clear h1 h2 h3 hz
  refine zaf.to (zaf.upP g (fun k=>[(0,LQ l),(23,LR rs),(24,I rs.length),(25,I k)]) (fun _=>[]) (fun k=>cbG (l.drop k) (rs.drop k)=R) rs.length (fun k hk h0 ih=> ?_) 0 (Nat.zero_le _) hR) rfl rfl
  by_cases hlt:k<rs.length
  ·have hlt':k<l.length:=by omega
   rw [yte hlt' hlt] at h0
   have ih:=ih hlt
   by_cases he:rs[k].nm=l[k].nm
   ·rw [if_pos he] at h0
    have ih:=ih h0
    repeat' ((conv=>whnf);first
    | refine Yz ?_
     | (refine zal.rec Rst.cells_length k rfl hlt ?_)
     | (refine zg4.rec Rqt.cells_length k rfl hlt' rfl ?_)
     | (refine Cmp.tt he ?_)
     | (refine zaf.to ih rfl rfl))
   ·rw [if_neg he] at h0
    rw [<-h0]
    repeat' ((conv=>whnf);first
    | refine Yz ?_
     | (refine zal.rec Rst.cells_length k rfl hlt ?_)
     | (refine zg4.rec Rqt.cells_length k rfl hlt' rfl ?_)
     | (refine Cmp.ff he ?_)
     | (refine Ret.mk rfl))
  ·rw [List.drop_eq_nil_of_le (by omega),List.drop_eq_nil_of_le (by omega),cbG] at h0
   rw [<-h0]
   repeat' ((conv=>whnf);first
   | refine Yz ?_
    | (refine Ret.mk rfl))
   all_goals simp
 ·rw [if_neg hz]
  unfold ynr at hz ⊢
  by_cases hn:l.length=rs.length
  ·rw [if_pos hn] at hz ⊢
   repeat' ((conv=>whnf);first
   | refine Yz ?_
    | (apply zae.of;assumption)
    | (refine zae.of (za7 g _ _) ?_)
    | (refine zae.of (zbx g _ _ _) ?_)
    | (refine Cmp.ff hz ?_)
    | (refine Ret.mk rfl))
  ·rw [if_neg hn] at hz ⊢
   repeat' ((conv=>whnf);first
   | refine Yz ?_
    | (apply zae.of;assumption)
    | (refine zae.of (za7 g _ _) ?_)
    | (refine zae.of (zbx g _ _ _) ?_)
    | (refine Cmp.ff hz ?_)
    | (refine Ret.mk rfl))
theorem yph (q:Rqt) (m:Int):Fc E zmt [Rqv q,I m] (Rqv (ycw q m)):=by
 refine g.fn rfl rfl ?_
 repeat' ((conv=>whnf);first
 | refine Yz ?_
  | (refine Ret.mk rfl))
end
open Go Go.Evl
section
variable {E : Oracle} (g : Good E)
include g
theorem ylr (ai se:List UInt8) (da:Int) (l:List Rqt) (rs:List Rst) (hl:l.length<=1000000) (hr:rs.length<=1000000):
  Fc E zhr [S ai,S se,I da,LQ l,LR rs] (if zap [zz1 ai se da,z4e l rs]=0 then .tup [Msv ⟨ANS,ai,se,da,ybi l rs⟩,I 0] else .tup [Msv ymv,I (zap [zz1 ai se da,z4e l rs])]):=by
 have h1:=z3f g ai se da
 have h2:=ydl g l rs hl hr
 by_cases hz:zap [zz1 ai se da,z4e l rs]=0
 ·rw [if_pos hz]
  have hn:=(yg7 ((za5 _).1 hz (z4e l rs) (by simp))).ln
  generalize hR:V.tup [Msv ⟨ANS,ai,se,da,ybi l rs⟩,I 0]=R
  refine g.fn rfl rfl ?_
  repeat' ((conv=>whnf);first
  | refine Yz ?_
   | (apply zae.of;assumption)
   | (refine zae.of (zcs g _ _) ?_)
   | (refine Cmp.tt hz ?_))
  clear h1 h2 hz
  refine zaf.to (zaf.up g (fun k=>[(3,LQ l),(10,.ptr ⟨0,10,1⟩ 0 0),(13,.ptr ⟨0,13,1⟩ 0 0),(34,LR rs),(35,I rs.length),(36,I k)])
   (fun k=>[(⟨0,10,0⟩,.row false zac 14 0 []),(⟨0,10,1⟩,.cells zab [S [],S [],S [],I 0,.ref ⟨0,10,0⟩ 0 0 0]),(⟨0,33,0⟩,.row false zac 14 (ybi (l.take k) (rs.take k)).length ((ybi (l.take k) (rs.take k)).flatMap Lnt.cells)),(⟨0,13,0⟩,.row false zac 14 0 []),(⟨0,13,1⟩,.cells zab [S ANS,S ai,S se,I da,.ref ⟨0,33,0⟩ 0 (ybi (l.take k) (rs.take k)).length (ybi (l.take k) (rs.take k)).length])]) rs.length (fun k hk ih=> ?_) 0 (Nat.zero_le _)) rfl rfl
  by_cases hlt:k<rs.length
  ·have hlt':k<l.length:=by omega
   clear hR
   have ih:=ih hlt
   rw [yje hlt' hlt,List.flatMap_append,List.length_append] at ih
   have hX:(ybi (l.take k) (rs.take k)).length<=1000000:=by
    unfold ybi
    rw [List.length_zipWith,List.length_take,List.length_take]
    omega
   generalize ybi (l.take k) (rs.take k)=X at *
   have hfl:=zah Lnt.cells 14 Lnt.cells_length X
   have hmv:=yph g l[k] rs[k].mi
   by_cases hb:rs[k].gr=true
   ·by_cases hm:rs[k].mi=l[k].mi
    ·rw [show z3w l[k] rs[k]=⟨[75],l[k]⟩ by unfold z3w;rw [if_pos hb,if_pos hm]] at ih
     repeat' ((conv=>whnf);first
     | refine Yz ?_
      | (refine zal.rec Rst.cells_length k rfl hlt ?_)
      | (refine zal.rec Rqt.cells_length k rfl hlt' ?_)
      | (rw [hb])
      | (refine Cmp.tt hm ?_)
      | (refine ze8.mk (by simp only [List.length_cons,List.length_nil];omega) ?_)
      | (refine zaf.to ih rfl rfl))
    ·rw [show z3w l[k] rs[k]=⟨[79],ycw l[k] rs[k].mi⟩ by unfold z3w;rw [if_pos hb,if_neg hm]] at ih
     repeat' ((conv=>whnf);first
     | refine Yz ?_
      | (refine zal.rec Rst.cells_length k rfl hlt ?_)
      | (refine zal.rec Rqt.cells_length k rfl hlt' ?_)
      | (rw [hb])
      | (refine Cmp.ff hm ?_)
      | (refine zae.of hmv ?_)
      | (refine ze8.mk (by simp only [List.length_cons,List.length_nil];omega) ?_)
      | (refine zaf.to ih rfl rfl))
   ·rw [show z3w l[k] rs[k]=⟨[85],l[k]⟩ by unfold z3w;rw [if_neg hb]] at ih
    rw [Bool.not_eq_true] at hb
    repeat' ((conv=>whnf);first
    | refine Yz ?_
     | (refine zal.rec Rst.cells_length k rfl hlt ?_)
     | (refine zal.rec Rqt.cells_length k rfl hlt' ?_)
     | (rw [hb])
     | (refine ze8.mk (by simp only [List.length_cons,List.length_nil];omega) ?_)
     | (refine zaf.to ih rfl rfl))
  ·obtain rfl:k=rs.length:=by omega
   clear ih
   rw [List.take_length,<-hn,List.take_length,<-hR]
   generalize ybi l rs=X
   repeat' ((conv=>whnf);first
   | refine Yz ?_
    | (refine ze8.mk ⟨rfl,by simp⟩ ?_)
    | (refine Ret.mk ?_))
   simp
   rfl
 ·rw [if_neg hz]
  refine g.fn rfl rfl ?_
  repeat' ((conv=>whnf);first
  | refine Yz ?_
   | (apply zae.of;assumption)
   | (refine zae.of (zcs g _ _) ?_)
   | (refine Cmp.ff hz ?_)
   | (refine Ret.mk rfl))
end
structure Ent where
 rq:Rqt
 hi:Bool
 da:Int
def Ent.cells (e:Ent):List D:=[.str e.rq.nm,.str e.rq.ca,.str e.rq.ki,.str e.rq.te,.str e.rq.pa,.str e.rq.li,DI e.rq.fr,DI e.rq.to,DI e.rq.da,DI e.rq.mi,DI e.rq.se,DI e.rq.si,DI e.rq.no,.bool e.hi,DI e.da]
theorem Ent.cells_length (e:Ent):e.cells.length=15:=rfl
abbrev LE (l:List Ent):V:= .d (.list l.length (l.flatMap Ent.cells))
def plc (s:List UInt8):List Ent->Option Nat
 | []=>none
 | e::r=>if e.rq.nm=s then some 0 else(plc s r).map (·+1)
theorem zw5 {s:List UInt8}:∀ {l:List Ent} {k:Nat},plc s l=some k->∃h:k<l.length,l[k].rq.nm=s/\∀(j:Nat) (hj:j<k),¬(l[j]'(Nat.lt_trans hj h)).rq.nm=s
 | [],k,h=>by cases h
 | e::r,k,h=>by
  rw [plc] at h
  by_cases hx:e.rq.nm=s
  ·rw [if_pos hx] at h
   cases h
   exact⟨by simp,hx,fun j hj=>absurd hj (Nat.not_lt_zero _)⟩
  ·rw [if_neg hx] at h
   cases hp:plc s r with
   | none=>rw [hp] at h;cases h
   | some i=>
    rw [hp] at h
    cases h
    obtain⟨a,b,c⟩:=zw5 hp
    refine⟨by simpa using a,by simpa using b,fun j hj=> ?_⟩
    cases j with
    | zero=>simpa using hx
    | succ j=>simpa using c j (by have hj:j+1<i+1:=hj;omega)
def zm7 (l:List Ent) (x:Lnt):Int:=
 match plc x.rq.nm l with
 | none=>if x.ac=[78]\/x.ac=[72] then(if 64<=l.length then 5 else 0) else if x.ac=[82] then 0 else 10
 | some k=>if x.ac=[78]\/x.ac=[72] then 9 else if x.ac=[82] then 0 else if(l[k]?.map (·.rq))=some x.rq then 0 else 29
def zja (l:List Ent) (x:Lnt) (da:Int):List Ent:=
 match plc x.rq.nm l with
 | none=>l++[⟨x.rq,decide (x.ac=[72]),da⟩]
 | some k=>if x.ac=[82] then l.set k ⟨x.rq,(l[k]?.map (·.hi)).getD false,da⟩ else if x.ac=[68] then l.eraseIdx k else l
def zu0 (da:Int):List Ent->List Lnt->List Ent×Int
 | l,[]=>(l,0)
 | l,x::r=>if zm7 l x=0 then zu0 da (zja l x da) r else(l,zm7 l x)
def z98 (f p m:Mst):Int:=zap [ztk m,if m.ki=REQ then 0 else 13,if m.ai=f.ai/\m.se=f.se then 0 else 29,if m.da<p.da then 11 else 0]
def yga (f:Mst):Mst->Nat->List Ent->List Mst->List Ent×Nat×Int
 | _,_,l,[]=>(l,0,0)
 | p,i,l,m::r=>
  if z98 f p m=0 then(if(zu0 m.da l m.ls).2=0 then yga f m (i+1) (zu0 m.da l m.ls).1 r else([],i,(zu0 m.da l m.ls).2))
  else([],i,z98 f p m)
def ym8 (l:List Mst):List Ent×Nat×Int:=
 if 64<l.length then([],0,5) else
 match l with
 | []=>([],0,0)
 | f::r=>yga f f 0 [] (f::r)
def yhy (da:Int):List Ent->List Lnt->Prop
 | _,[]=>True
 | l,x::r=>(x.ac=[82]->(plc x.rq.nm l).isSome)/\(zm7 l x=0->yhy da (zja l x da) r)
theorem yok {p:Option Lnt} {x:Lnt} (h:lnE REQ p x=0) (hx:x.ac=[82]):∃y,p=some y/\y.ac=[67]/\y.rq.nm=x.rq.nm:=by
 unfold lnE at h
 rw [za5] at h
 have h3:=h (if(zj7 p||decide (x.ac=[82]))&& !(zj7 p&&decide (x.ac=[82])&&zqj x p) then 11 else 0) (by simp)
 rw [decide_eq_true hx] at h3
 cases p with
 | none=>simp [zj7] at h3
 | some y=>
  refine⟨y,rfl,?_⟩
  cases ho:zj7 (some y) with
  | false=>rw [ho] at h3;simp at h3
  | true=>
   cases ht:zqj x (some y) with
   | false=>rw [ho,ht] at h3;simp at h3
   | true=>
    simp only [zj7,decide_eq_true_eq] at ho
    simp only [zqj,zsf,Bool.and_eq_true,decide_eq_true_eq] at ht
    exact⟨ho,ht.2⟩
theorem z7x (da:Int):∀(ls:List Lnt) (l:List Ent) (p:Option Lnt) (i:Nat),(zkt REQ p i ls).2=0->(∀y,p=some y->y.ac=[67]->(plc y.rq.nm l).isSome)->yhy da l ls
 | [],_,_,_,_,_=>trivial
 | x::r,l,p,i,h,hp=>by
  rw [zkt] at h
  by_cases hz:lnE REQ p x=0
  ·rw [if_pos hz] at h
   refine⟨fun hx=> ?_,fun he=>z7x da r _ (some x) (i+1) h fun y hy hc=> ?_⟩
   ·obtain⟨y,hy,hc,hn⟩:=yok hz hx
    rw [<-hn]
    exact hp y hy hc
   ·obtain rfl:=Option.some.inj hy
    cases hq:plc x.rq.nm l with
    | none=>
     unfold zm7 at he
     rw [hq] at he
     simp only at he
     rw [hc,if_neg (by decide),if_neg (by decide)] at he
     cases he
    | some k=>
     have e:zja l x da=l:=by
      unfold zja
      rw [hq]
      simp only
      rw [hc,if_neg (by decide),if_neg (by decide)]
     rw [e,hq]
     rfl
  ·rw [if_neg hz] at h
   exact absurd h hz
theorem Mst.cells_length (m:Mst):m.cells.length=5:=rfl
abbrev LMs (l:List Mst):V:= .d (.list l.length (l.flatMap Mst.cells))
theorem z8l {l:List Ent} {x:Lnt} {da:Int} (h:l.length<=64) (he:zm7 l x=0) (hr:x.ac=[82]->(plc x.rq.nm l).isSome):(zja l x da).length<=64:=by
 unfold zm7 at he
 unfold zja
 cases hp:plc x.rq.nm l with
 | none=>
  rw [hp] at he hr
  simp only at he
  by_cases h1:x.ac=[78]\/x.ac=[72]
  ·rw [if_pos h1] at he
   split at he
   ·cases he
   ·simp;omega
  ·rw [if_neg h1] at he
   by_cases h2:x.ac=[82]
   ·have:=hr h2;cases this
   ·rw [if_neg h2] at he;cases he
 | some k=>
  simp only
  split
  ·simpa using h
  ·split
   ·have:=List.length_eraseIdx_le l k;omega
   ·exact h
def yul:Rqt:=⟨[],[],[],[],[],[],0,0,0,0,0,0,0⟩
def twF (l:List Rqt) (q:Rqt):Option Rqt:=l.find? fun o=>zsf o q
def dL (l:List Rqt) (q:Rqt):List Lnt:=match twF l q with|none=>[⟨[68],q⟩]|some _=>[]
def cL (l:List Rqt) (q:Rqt):List Lnt:=match twF l q with|none=>[]|some o=>if o=q then [] else [⟨[67],q⟩,⟨[82],o⟩]
def nL (l:List Rqt) (q:Rqt):List Lnt:=match twF l q with|none=>[⟨[78],q⟩]|some _=>[]
def z3r (b a:List Rqt):List Lnt:=(b.flatMap (dL a)++b.flatMap (cL a))++a.flatMap (nL b)
theorem yck (f:Rqt->List Lnt) (l:List Rqt) (k:Nat) (h:k<l.length):(l.take (k+1)).flatMap f=(l.take k).flatMap f++f l[k]:=by
 rw [List.take_add_one,List.getElem?_eq_getElem h,List.flatMap_append]
 simp only [Option.toList_some,List.flatMap_cons,List.flatMap_nil,List.append_nil]
theorem yud {l:List Rqt} {q:Rqt} {k:Nat} (hk:k<l.length) (h0:∀j (h:j<l.length),j<k->zsf l[j] q=false) (h1:zsf l[k] q=true):twF l q=some l[k]:=by
 unfold twF
 rw [List.find?_eq_some_iff_getElem]
 exact⟨h1,k,hk,rfl,fun j hj=>by rw [h0 j (by omega) hj];rfl⟩
theorem yue {l:List Rqt} {q:Rqt} (h0:∀j (h:j<l.length),zsf l[j] q=false):twF l q=none:=by
 unfold twF
 rw [List.find?_eq_none]
 intro x hx
 obtain⟨j,hj,rfl⟩:=List.getElem_of_mem hx
 rw [h0 j hj]
 decide
theorem z2t {f:Rqt->List Lnt} (w:Nat) (h:∀q,(f q).length<=w):∀l:List Rqt,(l.flatMap f).length<=l.length*w
 | []=>by simp
 | x::r=>by
  have ih:=z2t w h r
  have hx:=h x
  rw [List.flatMap_cons,List.length_append,List.length_cons,Nat.succ_mul]
  omega
theorem yp9 (l:List Rqt) (q:Rqt):(dL l q).length<=1:=by unfold dL;split<;>simp
theorem yqc (l:List Rqt) (q:Rqt):(nL l q).length<=1:=by unfold nL;split<;>simp
theorem yp8 (l:List Rqt) (q:Rqt):(cL l q).length<=2:=by unfold cL;split<;>(try split)<;>simp
theorem ytq {l:List Rqt} (hu:(zmz l).Nodup) {i j:Nat} (hi:i<l.length) (hj:j<l.length) (h:l[i].nm=l[j].nm):i=j:=by
 have hp:=List.pairwise_iff_getElem.1 hu
 have hn:(zmz l).length=l.length:=List.length_map ..
 rcases Nat.lt_trichotomy i j with h'|h'|h'
 ·exact absurd (by simpa [zmz] using h) (hp i j (by omega) (by omega) h')
 ·exact h'
 ·exact absurd (by simpa [zmz] using h.symm) (hp j i (by omega) (by omega) h')
theorem yap {a b:Rqt} (h:a.nm=b.nm/\a.ca=b.ca/\a.ki=b.ki/\a.te=b.te/\a.pa=b.pa/\a.li=b.li/\a.fr=b.fr/\a.to=b.to/\a.da=b.da/\a.mi=b.mi/\a.se=b.se/\a.si=b.si/\a.no=b.no):a=b:=by
 obtain⟨h1,h2,h3,h4,h5,h6,h7,h8,h9,h10,h11,h12,h13⟩:=h
 cases a
 cases b
 simp only at h1 h2 h3 h4 h5 h6 h7 h8 h9 h10 h11 h12 h13
 simp only [h1,h2,h3,h4,h5,h6,h7,h8,h9,h10,h11,h12,h13]
def ynq (x:List Lnt):List Lnt->List Lnt
 | []=>x
 | y::r=>x++(y::r)
theorem z6v (x:List Lnt):∀y,ynq x y=x++y
 | []=>(List.append_nil x).symm
 | _::_=>rfl
theorem yjq (x:List Lnt) (f:Rqt->List Lnt) {l:List Rqt} {k:Nat} (h:k<l.length):ynq x ((l.take (k+1)).flatMap f)=ynq x ((l.take k).flatMap f)++f l[k]:=by
 rw [z6v,z6v,yck f l k h,List.append_assoc]
theorem z8n {f:Rqt->List Lnt} {w:Nat} (h:∀q,(f q).length<=w) (l:List Rqt) (k:Nat):((l.take k).flatMap f).length<=l.length*w:=
 Nat.le_trans (z2t w h _) (Nat.mul_le_mul_right _ (by rw [List.length_take];omega))
section
variable {E : Oracle} (g : Good E)
include g
theorem yl1 (l:List Rqt) (q:Rqt) (hl:l.length<=1000000):(twF l q=none->Fc E zb7 [LQ l,Rqv q] (.tup [Rqv yul,B false]))/\∀o,twF l q=some o->Fc E zb7 [LQ l,Rqv q] (.tup [Rqv o,B true]):=by
 have main:∀R:V,(twF l q=none-> .tup [Rqv yul,B false]=R)->(∀o,twF l q=some o-> .tup [Rqv o,B true]=R)->Fc E zb7 [LQ l,Rqv q] R:=by
  intro R r1 r2
  refine g.fn rfl rfl ?_
  repeat' ((conv=>whnf);first
  | refine Yz ?_
   | (refine In.enter (f:=zbo) g.lim rfl rfl ?_))
  refine zaf.to (zaf.upP g (fun k=>[(0,LQ l),(1,.fn zdg [] [.ptr ⟨0,3,0⟩ 0 0]),(7,I l.length),(8,I k)]) (fun _=>_) (fun k=>∀j (h:j<l.length),j<k->zsf l[j] q=false) l.length (fun k hk h0 ih=> ?_) 0 (Nat.zero_le _) (fun j _ hj=>absurd hj (Nat.not_lt_zero _))) rfl rfl
  by_cases hlt:k<l.length
  ·have ht:=yds g l[k] q
   cases hb:zsf l[k] q
   ·rw [hb] at ht
    have ih:=ih hlt fun j h hj=>by
     by_cases e:j=k
     ·subst e;exact hb
     ·exact h0 j h (by omega)
    clear r1 r2 h0
    repeat' ((conv=>whnf);first
    | refine Yz ?_
     | (refine zal.rec Rqt.cells_length k rfl hlt ?_)
     | (refine In.enter (f:=zdg) g.lim rfl rfl ?_)
     | (refine zae.of ht ?_)
     | (refine zaf.to ih rfl rfl))
   ·rw [hb] at ht
    rw [<-r2 _ (yud hlt h0 hb)]
    clear r1 r2 h0 ih
    repeat' ((conv=>whnf);first
    | refine Yz ?_
     | (refine zal.rec Rqt.cells_length k rfl hlt ?_)
     | (refine In.enter (f:=zdg) g.lim rfl rfl ?_)
     | (refine zae.of ht ?_)
     | (refine Ret.mk rfl))
  ·rw [<-r1 (yue fun j h=>h0 j h (by omega))]
   clear r1 r2 h0 ih
   repeat' ((conv=>whnf);first
   | refine Yz ?_
    | (refine Ret.mk rfl))
 exact⟨fun h=>main _ (fun _=>rfl) (fun o ho=>by rw [h] at ho;cases ho),fun o h=>main _ (fun hn=>by rw [h] at hn;cases hn) (fun o' ho=>by rw [h] at ho;cases ho;rfl)⟩
end
def zrg (s:List UInt8) (l:List Ent):Int:=
 match plc s l with
 | some k=>k
 | none=> -1
theorem yak {s:List UInt8}:∀ {l:List Ent} {k:Nat} (h:k<l.length),(∀(j:Nat) (hj:j<l.length),j<k->¬l[j].rq.nm=s)->l[k].rq.nm=s->plc s l=some k
 | [],k,h,_,_=>absurd h (Nat.not_lt_zero _)
 | e::r,0,_,_,h1=>by
  have h1:e.rq.nm=s:=h1
  rw [plc,if_pos h1]
 | e::r,k+1,h,h0,h1=>by
  have h2:¬e.rq.nm=s:=h0 0 (by simp) (by omega)
  rw [plc,if_neg h2,yak (k:=k) (by simpa using h) (fun j hj hjk=>h0 (j+1) (by simpa using hj) (by omega)) h1]
  rfl
theorem z2y {s:List UInt8}:∀ {l:List Ent},(∀(j:Nat) (hj:j<l.length),¬l[j].rq.nm=s)->plc s l=none
 | [],_=>rfl
 | e::r,h=>by
  have h2:¬e.rq.nm=s:=h 0 (by simp)
  rw [plc,if_neg h2,z2y fun j hj=>h (j+1) (by simpa using hj)]
  rfl
theorem z6k (l:List Ent) (k:Nat) (h:k<=l.length):(l.flatMap Ent.cells).take (k*15)=(l.take k).flatMap Ent.cells:=by
 have e:l.flatMap Ent.cells=(l.take k).flatMap Ent.cells++(l.drop k).flatMap Ent.cells:=by
  rw [<-List.flatMap_append,List.take_append_drop]
 rw [e]
 refine List.take_left' ?_
 rw [zah Ent.cells 15 Ent.cells_length,List.length_take]
 omega
theorem zwo (l:List Ent) (k:Nat) (e:Ent) (h:k<l.length):patch (l.flatMap Ent.cells) (k*15) e.cells=(l.set k e).flatMap Ent.cells:=by
 unfold patch
 rw [List.set_eq_take_append_cons_drop,if_pos h,List.flatMap_append,List.flatMap_cons]
 have h1:=zl2 Ent.cells 15 Ent.cells_length l (k+1)
 have h2:(l.flatMap Ent.cells).take (k*15)=(l.take k).flatMap Ent.cells:=by
  have:=z6k l k (by omega)
  exact this
 rw [h2,Ent.cells_length,show k*15+15=(k+1)*15 by omega,h1,List.append_assoc]
theorem z8m {l:List Ent} {q:Rqt} {s:List UInt8} {da:Int} (hp:plc q.nm l=none) (hs:s=[78]\/s=[72]):zm7 l ⟨s,q⟩=(if 64<=l.length then 5 else 0)/\zja l ⟨s,q⟩ da=l++[⟨q,decide (s=[72]),da⟩]:=by
 unfold zm7 zja
 simp only [hp]
 exact⟨if_pos hs,trivial⟩
theorem zxe {l:List Ent} {q:Rqt} {s:List UInt8} {k:Nat} (hp:plc q.nm l=some k) (hs:s=[78]\/s=[72]):zm7 l ⟨s,q⟩=9:=by
 unfold zm7
 simp only [hp]
 exact if_pos hs
theorem z0s {l:List Ent} {q:Rqt} {s:List UInt8} (hp:plc q.nm l=none) (h1:¬s=[78]) (h2:¬s=[72]) (h3:¬s=[82]):zm7 l ⟨s,q⟩=10:=by
 unfold zm7
 simp only [hp]
 rw [if_neg (by rintro(h|h)<;>contradiction),if_neg h3]
theorem z0t {l:List Ent} {q:Rqt} {da:Int} {k:Nat} (hp:plc q.nm l=some k) (hk:k<l.length):zm7 l ⟨[82],q⟩=0/\zja l ⟨[82],q⟩ da=l.set k ⟨q,l[k].hi,da⟩:=by
 unfold zm7 zja
 simp only [hp,List.getElem?_eq_getElem hk,Option.map_some,Option.getD_some]
 exact⟨by rw [if_neg (by decide)];rfl,rfl⟩
theorem z0u {l:List Ent} {q:Rqt} {s:List UInt8} {da:Int} {k:Nat} (hp:plc q.nm l=some k) (hk:k<l.length) (h1:¬s=[78]) (h2:¬s=[72]) (h3:¬s=[82]):zm7 l ⟨s,q⟩=(if l[k].rq=q then 0 else 29)/\zja l ⟨s,q⟩ da=if s=[68] then l.eraseIdx k else l:=by
 unfold zm7 zja
 simp only [hp,List.getElem?_eq_getElem hk,Option.map_some,Option.some.injEq]
 exact⟨by rw [if_neg (by rintro(h|h)<;>contradiction),if_neg h3],by rw [if_neg h3]⟩
abbrev lnV (x:Lnt):List V:=[.d (.str x.ac),.d (.str x.rq.nm),.d (.str x.rq.ca),.d (.str x.rq.ki),.d (.str x.rq.te),.d (.str x.rq.pa),.d (.str x.rq.li),.d (DI x.rq.fr),.d (DI x.rq.to),.d (DI x.rq.da),.d (DI x.rq.mi),.d (DI x.rq.se),.d (DI x.rq.si),.d (DI x.rq.no)]
theorem zwx {da:Int} {l:List Ent} {ls:List Lnt} {k:Nat} (h:k<ls.length):zu0 da l (ls.drop k)=if zm7 l ls[k]=0 then zu0 da (zja l ls[k] da) (ls.drop (k+1)) else(l,zm7 l ls[k]):=by
 rw [List.drop_eq_getElem_cons h,zu0]
theorem yr6 {ms:List Mst} (h0:0<ms.length) (h:ms.length<=64):ym8 ms=yga (ms.getD 0 ymv) (ms.getD 0 ymv) 0 [] ms:=by
 unfold ym8
 rw [if_neg (by omega)]
 cases ms with
 | nil=>cases h0
 | cons f r=>rfl
theorem zw7 {f p:Mst} {i:Nat} {l:List Ent} {ms:List Mst} (h:i<ms.length):yga f p i l (ms.drop i)=if z98 f p ms[i]=0 then(if(zu0 ms[i].da l ms[i].ls).2=0 then yga f ms[i] (i+1) (zu0 ms[i].da l ms[i].ls).1 (ms.drop (i+1)) else([],i,(zu0 ms[i].da l ms[i].ls).2)) else([],i,z98 f p ms[i]):=by
 rw [List.drop_eq_getElem_cons h,yga]
theorem yks (f p m:Mst):z98 f p m=if ztk m=0 then(if m.ki=REQ then(if m.ai=f.ai/\m.se=f.se then(if m.da<p.da then 11 else 0) else 29) else 13) else ztk m:=by
 unfold z98
 simp only [zap]
 by_cases h1:ztk m=0
 ·by_cases h2:m.ki=REQ
  ·by_cases h3:m.ai=f.ai/\m.se=f.se
   ·by_cases h4:m.da<p.da<;>simp [h1,h2,h3,h4]
   ·simp [h1,h2,h3]
  ·simp [h1,h2]
 ·simp [h1]
theorem zy0 {ms:List Mst} {i:Nat} (h:i<ms.length):ms.getD i ymv=ms[i]:=by simp [List.getD,h]
abbrev msV (m:Mst):List V:=[S m.ki,S m.ai,S m.se,I m.da,LL m.ls]
structure ypz (p:Prop):Prop where
 go:p
theorem Mf {A B:Prop}:(b:Bool)->b=false->B->(match b with|true=>A|false=>B)
 | false,_,k=>k
 | true,h,_=>Bool.noConfusion h
theorem Mt {A B:Prop}:(b:Bool)->b=true->A->(match b with|true=>A|false=>B)
 | true,_,k=>k
 | false,h,_=>Bool.noConfusion h
theorem zal.part0 {α:Type} {cell:α->List D} {w:Nat} (hw:∀a,(cell a).length=w) {l:List α} {i:Int} {j n:Nat} {ds:List D} {K:List D->Prop} (k:Nat) (hi:i=k) (h:k<l.length) (hj:j+n<=w) (hd:win (cell l[k]) j n=ds) (hk:K ds):zal (l.flatMap cell) ((0+i.toNat)*w+j) n K:=by
 rw [Nat.zero_add]
 exact zal.part hw k hi h hj hd hk
theorem z0b (l:List Ent) (k:Nat) (h:k<l.length):(if 0+0=0/\k-0=l.length then l.flatMap Ent.cells else win (l.flatMap Ent.cells) ((0+0)*15) ((k-0)*15))=(l.take k).flatMap Ent.cells/\(if 0+(k+1)=0/\l.length-(k+1)=l.length then l.flatMap Ent.cells else win (l.flatMap Ent.cells) ((0+(k+1))*15) ((l.length-(k+1))*15))=(l.drop (k+1)).flatMap Ent.cells:=by
 constructor
 ·rw [if_neg (by omega)]
  unfold win
  rw [show (0+0)*15=0 from rfl,List.drop_zero,Nat.sub_zero,z6k l k (by omega)]
 ·rw [if_neg (by omega)]
  unfold win
  rw [show (0+(k+1))*15=(k+1)*15 by omega,zl2 Ent.cells 15 Ent.cells_length,List.take_of_length_le (by rw [zah Ent.cells 15 Ent.cells_length,List.length_drop];omega)]
theorem z0c (l:List Ent) (k:Nat) (h:k<l.length) {X Y:List D} (hX:X=(l.take k).flatMap Ent.cells) (hY:Y=(l.drop (k+1)).flatMap Ent.cells):patch (patch (List.replicate ((l.length:Int)-1).toNat [D.str [],D.str [],D.str [],D.str [],D.str [],D.str [],D.int IntKind.i64 0,D.int IntKind.i64 0,D.int IntKind.i64 0,D.int IntKind.i64 0,D.int IntKind.i64 0,D.int IntKind.i64 0,D.int IntKind.i64 0,D.bool false,D.int IntKind.i64 0]).flatten (0*15) (List.take (min (k-0) ((l.length:Int)-1).toNat*15) X)) ((0+k)*15) (List.take (min (l.length-(k+1)) (l.length-1-k)*15) Y)=(l.eraseIdx k).flatMap Ent.cells:=by
 have hn:((l.length:Int)-1).toNat=l.length-1:=by omega
 have hXl:X.length=k*15:=by rw [hX,zah Ent.cells 15 Ent.cells_length,List.length_take];omega
 have hYl:Y.length=(l.length-(k+1))*15:=by rw [hY,zah Ent.cells 15 Ent.cells_length,List.length_drop]
 rw [hn,List.take_of_length_le (by rw [hXl];omega),List.take_of_length_le (by rw [hYl];omega)]
 generalize hZ:(List.replicate (l.length-1) [D.str [],D.str [],D.str [],D.str [],D.str [],D.str [],D.int IntKind.i64 0,D.int IntKind.i64 0,D.int IntKind.i64 0,D.int IntKind.i64 0,D.int IntKind.i64 0,D.int IntKind.i64 0,D.int IntKind.i64 0,D.bool false,D.int IntKind.i64 0]).flatten=Z
 have hZl:Z.length=(l.length-1)*15:=by
  rw [<-hZ,List.length_flatten,List.map_replicate,List.sum_replicate_nat]
  rfl
 unfold patch
 rw [show 0*15=0 from rfl,List.take_zero,List.nil_append,Nat.zero_add,Nat.zero_add,List.take_left' hXl,List.drop_eq_nil_of_le (by rw [List.length_append,List.length_drop,hXl,hYl,hZl];omega),List.append_nil,hX,hY,List.eraseIdx_eq_take_drop_succ,List.flatMap_append]
theorem zan {u t:Evl.Id} {l:List Evl.Id} (h:idB u t=true):yko (u::l) t=true:=by
 unfold yko
 rw [h]
theorem zam {u t:Evl.Id} {l:List Evl.Id} {b:Bool} (h:idB u t=false) (k:yko l t=b):yko (u::l) t=b:=by
 unfold yko
 rw [h]
 exact k
theorem zmi {a b:Nat} (h:¬a=b):Nat.beq a b=false:=by
 cases hb:Nat.beq a b with
 | false=>rfl
 | true=>exact absurd (Nat.eq_of_beq_eq_true hb) h
theorem yp6 {a b:Nat} (h:¬a=b):Nat.beq b a=false:=zmi fun e=>h e.symm
abbrev mA (a b:Mst) (l:List Ent) (x:Lnt):Mem:=[(⟨0,2,0⟩,.row true zaa 15 0 []),(⟨0,5,0⟩,.row true zaa 15 l.length (l.flatMap Ent.cells)),(⟨0,9,0⟩,.cells zab (msV a)),(⟨0,10,0⟩,.cells zab (msV b)),(⟨0,12,0⟩,.cells zac (lnV x))]
abbrev nA (a b:Mst) (l:List Ent) (x:Lnt):Mem:=[(⟨0,2,0⟩,.row true zaa 15 0 []),(⟨0,5,0⟩,.row true zaa 15 l.length (l.flatMap Ent.cells)),(⟨0,9,0⟩,.cells zab (msV a)),(⟨0,10,0⟩,.cells zab (msV b)),(⟨0,12,0⟩,.cells zac (lnV x)),(⟨1,4,0⟩,.cells zac (lnV x)),(⟨1,6,0⟩,.row true zaa 15 0 [])]
abbrev pA (a b:Mst) (l:List Ent) (x:Lnt):Mem:=[(⟨0,2,0⟩,.row true zaa 15 0 []),(⟨0,5,0⟩,.row true zaa 15 l.length (l.flatMap Ent.cells)),(⟨0,9,0⟩,.cells zab (msV a)),(⟨0,10,0⟩,.cells zab (msV b)),(⟨0,12,0⟩,.cells zac (lnV x)),(⟨1,4,0⟩,.cells zac (lnV x)),(⟨1,6,0⟩,.row true zaa 15 0 []),(⟨2,3,0⟩,.cells zbl [S x.rq.nm])]
section
variable {E : Oracle} (g : Good E)
include g
theorem yn4 (a b:Mst) (l:List Ent) (x:Lnt) (hl:l.length<=64) {K:V->Mem->Prop} (hK:K (I (zrg x.rq.nm l)) (pA a b l x)):In E 2 zcw [.ref ⟨0,5,0⟩ 0 l.length l.length,S x.rq.nm] (nA a b l x) K:=by
 refine In.enter (f:=zcw) g.lim rfl rfl ?_
 repeat' ((conv=>whnf);first
 | refine Yz ?_
  | (refine In.enter (f:=zaq) g.lim rfl rfl ?_))
 refine zaf.to (zaf.upP g (fun k=>[(0,.ref ⟨0,5,0⟩ 0 l.length l.length),(1,.fn za9 [] [.ptr ⟨2,3,0⟩ 0 0]),(7,I l.length),(8,I k)]) (fun _=>pA a b l x) (fun k=>∀(j:Nat) (hj:j<l.length),j<k->¬l[j].rq.nm=x.rq.nm) l.length (fun k hk hp ih=> ?_) 0 (Nat.zero_le _) (fun j _ h=>absurd h (Nat.not_lt_zero _))) rfl rfl
 by_cases hlt:k<l.length
 ·by_cases he:l[k].rq.nm=x.rq.nm
  ·have e:zrg x.rq.nm l=k:=by unfold zrg;rw [yak hlt hp he]
   rw [e] at hK
   repeat' ((conv=>whnf);first
   | refine Yz ?_
    | (refine zal.rec0 Ent.cells_length k rfl hlt ?_)
    | (refine In.enter (f:=za9) g.lim rfl rfl ?_)
    | (refine Cmp.tt he ?_)
    | (exact hK))
  ·have ih:=ih hlt fun j hj hjk=>by
    by_cases e:j=k
    ·subst e;exact he
    ·exact hp j hj (by omega)
   repeat' ((conv=>whnf);first
   | refine Yz ?_
    | (refine zal.rec0 Ent.cells_length k rfl hlt ?_)
    | (refine In.enter (f:=za9) g.lim rfl rfl ?_)
    | (refine Cmp.ff he ?_)
    | (refine zaf.to ih rfl rfl))
 ·have e:zrg x.rq.nm l= -1:=by unfold zrg;rw [z2y fun j hj=>hp j hj (by omega)]
  rw [e] at hK
  repeat' ((conv=>whnf);first
  | refine Yz ?_
   | (exact hK))
theorem yn9 (a b:Mst) (l:List Ent) (x:Lnt) (da:Int) (hl:l.length<=64) (hr:x.ac=[82]->(plc x.rq.nm l).isSome) {K:V->Mem->Prop}
  (hE:∀e:Int,zm7 l x=e->e≠0->K (.tup [.ref ⟨1,6,1⟩ 0 0 0,I e]) (nA a b l x++[(⟨1,6,1⟩,.row true zaa 15 0 [])]))
  (hS:zm7 l x=0->x.ac≠[68]->K (.tup [.ref ⟨0,5,0⟩ 0 (zja l x da).length (zja l x da).length,I 0]) (nA a b (zja l x da) x))
  (hD:zm7 l x=0->x.ac=[68]->K (.tup [.ref ⟨1,74,0⟩ 0 (zja l x da).length (zja l x da).length,I 0]) (nA a b l x++[(⟨1,74,0⟩,.row true zaa 15 (zja l x da).length ((zja l x da).flatMap Ent.cells))])):
  In E 1 zcx [.ref ⟨0,5,0⟩ 0 l.length l.length,Lnv x,I da] (mA a b l x) K:=by
 have hF:=fun {K}=>yn4 g a b l x hl (K:=K)
 have hfl:=fun(_:Unit)=>zah Ent.cells 15 Ent.cells_length l
 obtain⟨s,q⟩:=x
 dsimp only at hr hF hS hD
 refine In.enter (f:=zcx) g.lim rfl rfl ?_
 cases hp:plc q.nm l with
 | none=>
  have e:zrg q.nm l= -1:=by unfold zrg;rw [hp]
  rw [e] at hF
  by_cases h1:s=[78]\/s=[72]
  ·obtain⟨eE,eL⟩:=z8m (da:=da) hp h1
   by_cases h64:64<=l.length
   ·have hE:=hE 5 (by rw [eE,if_pos h64]) (by decide)
    rcases h1 with rfl|rfl
    all_goals
     repeat' ((conv=>whnf);first
     | refine Yz ?_
      | (refine hF ?_)
      | (refine Cmp.tt rfl ?_)
      | (refine Cmp.ff (by intro h;cases h) ?_)
      | (refine zae.of (za7 g _ _) ?_)
      | (refine zae.of (zcs g _ _) ?_)
      | (exact hE))
   ·rw [if_neg h64] at eE
    rcases h1 with rfl|rfl
    all_goals
     have hS:=hS eE (by decide)
     rw [eL] at hS
     dsimp only [nA] at hS
     rw [List.length_append,List.flatMap_append] at hS
     repeat' ((conv=>whnf);first
     | refine Yz ?_
      | (refine hF ?_)
      | (refine Cmp.tt rfl ?_)
      | (refine Cmp.ff (by intro h;cases h) ?_)
      | (refine zae.of (za7 g _ _) ?_)
      | (refine zae.of (zcs g _ _) ?_)
      | (refine ze8.mk ⟨rfl,rfl,rfl,rfl,rfl,rfl,by show (l.length+1)*168<=_;omega,by omega⟩ ?_)
      | (exact hS))
  ·have h2:¬s=[78]:=fun h=>h1 (.inl h)
   have h3:¬s=[72]:=fun h=>h1 (.inr h)
   have h4:¬s=[82]:=fun h=>by have:=hr h;rw [hp] at this;cases this
   have hE:=hE 10 (z0s hp h2 h3 h4) (by decide)
   repeat' ((conv=>whnf);first
   | refine Yz ?_
    | (refine hF ?_)
    | (refine Cmp.ff h2 ?_)
    | (refine Cmp.ff h3 ?_)
    | (refine Cmp.ff h4 ?_)
    | (exact hE))
 | some k=>
  have e:zrg q.nm l=k:=by unfold zrg;rw [hp]
  rw [e] at hF
  obtain⟨hk,hnm,_⟩:=zw5 hp
  by_cases h1:s=[78]\/s=[72]
  ·have hE:=hE 9 (zxe hp h1) (by decide)
   rcases h1 with rfl|rfl
   all_goals
    repeat' ((conv=>whnf);first
    | refine Yz ?_
     | (refine hF ?_)
     | (refine Cmp.tt rfl ?_)
     | (refine Cmp.ff (by intro h;cases h) ?_)
     | (refine zae.of (za7 g _ _) ?_)
     | (refine zae.of (zcs g _ _) ?_)
     | (exact hE)
     | (refine Cmp.mk (fun h=> ?_) (fun h=> ?_))|(refine Rem.any (by omega) (fun r hr he=> ?_))|(refine Br.mk (fun h=> ?_) (fun h=> ?_))
     | (exfalso;omega))
  ·have h2:¬s=[78]:=fun h=>h1 (.inl h)
   have h3:¬s=[72]:=fun h=>h1 (.inr h)
   by_cases h4:s=[82]
   ·subst h4
    obtain⟨eE,eL⟩:=z0t (da:=da) hp hk
    have hS:=hS eE (by decide)
    have ep:patch (l.flatMap Ent.cells) ((0+((k:Nat):Int).toNat)*15) (Ent.cells ⟨q,l[k].hi,da⟩)=(l.set k ⟨q,l[k].hi,da⟩).flatMap Ent.cells:=by
     rw [show (0+((k:Nat):Int).toNat)*15=k*15 by omega]
     exact zwo l k ⟨q,l[k].hi,da⟩ hk
    rw [eL] at hS
    dsimp only [nA] at hS
    rw [List.length_set,<-ep] at hS
    repeat' ((conv=>whnf);first
    | refine Yz ?_
     | (refine hF ?_)
     | (refine Cmp.tt rfl ?_)
     | (refine Cmp.ff (by intro h;cases h) ?_)
     | (refine zg4.rec0 (d:= .bool l[k].hi) Ent.cells_length k rfl hk rfl ?_)
     | (refine ze8.mk ⟨by omega,by omega,rfl,by omega,rfl⟩ ?_)
     | (refine ze8.mk ⟨rfl,by simp only [hfl ()];omega,rfl⟩ ?_)
     | (exact hS))
   ·obtain⟨eE,eL⟩:=z0u (da:=da) hp hk h2 h3 h4
    by_cases hq:l[k].rq=q
    ·rw [if_pos hq] at eE
     have hpp:l[k].rq.nm=q.nm/\l[k].rq.ca=q.ca/\l[k].rq.ki=q.ki/\l[k].rq.te=q.te/\l[k].rq.pa=q.pa/\l[k].rq.li=q.li/\l[k].rq.fr=q.fr/\l[k].rq.to=q.to/\l[k].rq.da=q.da/\l[k].rq.mi=q.mi/\l[k].rq.se=q.se/\l[k].rq.si=q.si/\l[k].rq.no=q.no:=by
      rw [hq]
      exact⟨rfl,rfl,rfl,rfl,rfl,rfl,rfl,rfl,rfl,rfl,rfl,rfl,rfl⟩
     by_cases h5:s=[68]
     ·subst h5
      have hD:=hD eE rfl
      rw [eL,if_pos rfl] at hD
      dsimp only [nA] at hD
      obtain⟨eA,eB⟩:=z0b l k hk
      have eAn:=(congrArg List.length eA).trans (show _=(k-0)*15 by rw [zah Ent.cells 15 Ent.cells_length,List.length_take];omega)
      have eBn:=(congrArg List.length eB).trans (show _=(l.length-(k+1))*15 by rw [zah Ent.cells 15 Ent.cells_length,List.length_drop])
      have hlen:(l.eraseIdx k).length=((l.length:Int)-1).toNat:=by rw [List.length_eraseIdx_of_lt hk];omega
      rw [hlen] at hD
      repeat' ((conv=>whnf);first
      | refine Yz ?_
       | (refine hF ?_)
       | (refine Cmp.tt rfl ?_)
       | (refine Cmp.ff (by intro h;cases h) ?_)
       | (refine Cmp.tt hpp ?_)
       | (refine zal.part0 Ent.cells_length (j:=0) k rfl hk (by omega) rfl ?_)
       | (refine zff.at 0 k (by omega) (by omega) (by omega) ?_)
       | (refine zff.at k (l.length-1) (by omega) (by omega) (by omega) ?_)
       | (refine zff.at (k+1) l.length (by omega) (by omega) (by omega) ?_)
       | (refine ze8.mk ⟨rfl,by omega,rfl,eAn⟩ ?_)
       | (refine ze8.mk ⟨rfl,by omega,rfl,eBn⟩ ?_))
      rw [<-z0c l k hk eA eB] at hD
      exact hD
     ·have hS:=hS eE h5
      rw [eL,if_neg h5] at hS
      repeat' ((conv=>whnf);first
      | refine Yz ?_
       | (refine hF ?_)
       | (refine Cmp.ff h2 ?_)
       | (refine Cmp.ff h3 ?_)
       | (refine Cmp.ff h4 ?_)
       | (refine Cmp.ff h5 ?_)
       | (refine Cmp.tt hpp ?_)
       | (refine zal.part0 Ent.cells_length (j:=0) k rfl hk (by omega) rfl ?_)
       | (exact hS))
    ·rw [if_neg hq] at eE
     have hE:=hE 29 eE (by decide)
     have hpp:¬(l[k].rq.nm=q.nm/\l[k].rq.ca=q.ca/\l[k].rq.ki=q.ki/\l[k].rq.te=q.te/\l[k].rq.pa=q.pa/\l[k].rq.li=q.li/\l[k].rq.fr=q.fr/\l[k].rq.to=q.to/\l[k].rq.da=q.da/\l[k].rq.mi=q.mi/\l[k].rq.se=q.se/\l[k].rq.si=q.si/\l[k].rq.no=q.no):=fun h=>hq (yap h)
     repeat' ((conv=>whnf);first
     | refine Yz ?_
      | (refine hF ?_)
      | (refine Cmp.ff h2 ?_)
      | (refine Cmp.ff h3 ?_)
      | (refine Cmp.ff h4 ?_)
      | (refine Cmp.ff hpp ?_)
      | (refine zal.part0 Ent.cells_length (j:=0) k rfl hk (by omega) rfl ?_)
      | (exact hE))
end
abbrev mB (a b:Mst) (l1:List Ent) (c:Nat) (l:List Ent) (x:Lnt):Mem:=[(⟨0,2,0⟩,.row true zaa 15 0 []),(⟨0,5,0⟩,.row true zaa 15 l1.length (l1.flatMap Ent.cells)),(⟨0,9,0⟩,.cells zab (msV a)),(⟨0,10,0⟩,.cells zab (msV b)),(⟨0,75,c⟩,.row true zaa 15 l.length (l.flatMap Ent.cells)),(⟨0,12,0⟩,.cells zac (lnV x))]
abbrev nB (a b:Mst) (l1:List Ent) (c:Nat) (l:List Ent) (x:Lnt):Mem:=[(⟨0,2,0⟩,.row true zaa 15 0 []),(⟨0,5,0⟩,.row true zaa 15 l1.length (l1.flatMap Ent.cells)),(⟨0,9,0⟩,.cells zab (msV a)),(⟨0,10,0⟩,.cells zab (msV b)),(⟨0,75,c⟩,.row true zaa 15 l.length (l.flatMap Ent.cells)),(⟨0,12,0⟩,.cells zac (lnV x)),(⟨1,4,0⟩,.cells zac (lnV x)),(⟨1,6,0⟩,.row true zaa 15 0 [])]
abbrev pB (a b:Mst) (l1:List Ent) (c:Nat) (l:List Ent) (x:Lnt):Mem:=[(⟨0,2,0⟩,.row true zaa 15 0 []),(⟨0,5,0⟩,.row true zaa 15 l1.length (l1.flatMap Ent.cells)),(⟨0,9,0⟩,.cells zab (msV a)),(⟨0,10,0⟩,.cells zab (msV b)),(⟨0,75,c⟩,.row true zaa 15 l.length (l.flatMap Ent.cells)),(⟨0,12,0⟩,.cells zac (lnV x)),(⟨1,4,0⟩,.cells zac (lnV x)),(⟨1,6,0⟩,.row true zaa 15 0 []),(⟨2,3,0⟩,.cells zbl [S x.rq.nm])]
section
variable {E : Oracle} (g : Good E)
include g
theorem yn5 (a b:Mst) (l1:List Ent) (c:Nat) (l:List Ent) (x:Lnt) (hl:l.length<=64) {K:V->Mem->Prop} (hK:K (I (zrg x.rq.nm l)) (pB a b l1 c l x)):In E 2 zcw [.ref ⟨0,75,c⟩ 0 l.length l.length,S x.rq.nm] (nB a b l1 c l x) K:=by
 refine In.enter (f:=zcw) g.lim rfl rfl ?_
 repeat' ((conv=>whnf);first
 | refine Yz ?_
  | (refine Mt _ (Nat.beq_refl _) ?_)
  | ((refine Mt _ ?_ ?_);focus ((repeat' (first |exact zan rfl|exact zan (Nat.beq_refl _)|((refine zam ?h ?_);(case h=>first |rfl|assumption))));done))
  | (refine In.enter (f:=zaq) g.lim rfl rfl ?_))
 refine zaf.to (zaf.upP g (fun k=>[(0,.ref ⟨0,75,c⟩ 0 l.length l.length),(1,.fn za9 [] [.ptr ⟨2,3,0⟩ 0 0]),(7,I l.length),(8,I k)]) (fun _=>pB a b l1 c l x) (fun k=>∀(j:Nat) (hj:j<l.length),j<k->¬l[j].rq.nm=x.rq.nm) l.length (fun k hk hp ih=> ?_) 0 (Nat.zero_le _) (fun j _ h=>absurd h (Nat.not_lt_zero _))) rfl rfl
 by_cases hlt:k<l.length
 ·by_cases he:l[k].rq.nm=x.rq.nm
  ·have e:zrg x.rq.nm l=k:=by unfold zrg;rw [yak hlt hp he]
   rw [e] at hK
   repeat' ((conv=>whnf);first
   | refine Yz ?_
    | (refine zal.rec0 Ent.cells_length k rfl hlt ?_)
    | (refine In.enter (f:=za9) g.lim rfl rfl ?_)
    | (refine Cmp.tt he ?_)
     | (refine Mt _ (Nat.beq_refl _) ?_)
     | ((refine Mt _ ?_ ?_);focus ((repeat' (first |exact zan rfl|exact zan (Nat.beq_refl _)|((refine zam ?h ?_);(case h=>first |rfl|assumption))));done))
    | (exact hK))
  ·have ih:=ih hlt fun j hj hjk=>by
    by_cases e:j=k
    ·subst e;exact he
    ·exact hp j hj (by omega)
   repeat' ((conv=>whnf);first
   | refine Yz ?_
    | (refine zal.rec0 Ent.cells_length k rfl hlt ?_)
    | (refine In.enter (f:=za9) g.lim rfl rfl ?_)
    | (refine Cmp.ff he ?_)
     | (refine Mt _ (Nat.beq_refl _) ?_)
     | ((refine Mt _ ?_ ?_);focus ((repeat' (first |exact zan rfl|exact zan (Nat.beq_refl _)|((refine zam ?h ?_);(case h=>first |rfl|assumption))));done))
    | (refine zaf.to ih rfl rfl))
 ·have e:zrg x.rq.nm l= -1:=by unfold zrg;rw [z2y fun j hj=>hp j hj (by omega)]
  rw [e] at hK
  repeat' ((conv=>whnf);first
  | refine Yz ?_
     | (refine Mt _ (Nat.beq_refl _) ?_)
     | ((refine Mt _ ?_ ?_);focus ((repeat' (first |exact zan rfl|exact zan (Nat.beq_refl _)|((refine zam ?h ?_);(case h=>first |rfl|assumption))));done))
   | (exact hK))
theorem yoa (a b:Mst) (l1:List Ent) (c:Nat) (l:List Ent) (x:Lnt) (da:Int) (hl:l.length<=64) (hr:x.ac=[82]->(plc x.rq.nm l).isSome) {K:V->Mem->Prop}
  (hE:∀e:Int,zm7 l x=e->e≠0->K (.tup [.ref ⟨1,6,1⟩ 0 0 0,I e]) (nB a b l1 c l x++[(⟨1,6,1⟩,.row true zaa 15 0 [])]))
  (hS:zm7 l x=0->x.ac≠[68]->K (.tup [.ref ⟨0,75,c⟩ 0 (zja l x da).length (zja l x da).length,I 0]) (nB a b l1 c (zja l x da) x))
  (hD:zm7 l x=0->x.ac=[68]->K (.tup [.ref ⟨1,74,0⟩ 0 (zja l x da).length (zja l x da).length,I 0]) (nB a b l1 c l x++[(⟨1,74,0⟩,.row true zaa 15 (zja l x da).length ((zja l x da).flatMap Ent.cells))])):
  In E 1 zcx [.ref ⟨0,75,c⟩ 0 l.length l.length,Lnv x,I da] (mB a b l1 c l x) K:=by
 have hF:=fun {K}=>yn5 g a b l1 c l x hl (K:=K)
 have hfl:=fun(_:Unit)=>zah Ent.cells 15 Ent.cells_length l
 obtain⟨s,q⟩:=x
 dsimp only at hr hF hS hD
 refine In.enter (f:=zcx) g.lim rfl rfl ?_
 cases hp:plc q.nm l with
 | none=>
  have e:zrg q.nm l= -1:=by unfold zrg;rw [hp]
  rw [e] at hF
  by_cases h1:s=[78]\/s=[72]
  ·obtain⟨eE,eL⟩:=z8m (da:=da) hp h1
   by_cases h64:64<=l.length
   ·have hE:=hE 5 (by rw [eE,if_pos h64]) (by decide)
    rcases h1 with rfl|rfl
    all_goals
     repeat' ((conv=>whnf);first
     | refine Yz ?_
       | (refine Mt _ (Nat.beq_refl _) ?_)
       | ((refine Mt _ ?_ ?_);focus ((repeat' (first |exact zan rfl|exact zan (Nat.beq_refl _)|((refine zam ?h ?_);(case h=>first |rfl|assumption))));done))
      | (refine hF ?_)
      | (refine Cmp.tt rfl ?_)
      | (refine Cmp.ff (by intro h;cases h) ?_)
      | (refine zae.of (za7 g _ _) ?_)
      | (refine zae.of (zcs g _ _) ?_)
      | (exact hE))
   ·rw [if_neg h64] at eE
    rcases h1 with rfl|rfl
    all_goals
     have hS:=hS eE (by decide)
     rw [eL] at hS
     dsimp only [nB] at hS
     rw [List.length_append,List.flatMap_append] at hS
     repeat' ((conv=>whnf);first
     | refine Yz ?_
       | (refine Mt _ (Nat.beq_refl _) ?_)
       | ((refine Mt _ ?_ ?_);focus ((repeat' (first |exact zan rfl|exact zan (Nat.beq_refl _)|((refine zam ?h ?_);(case h=>first |rfl|assumption))));done))
      | (refine hF ?_)
      | (refine Cmp.tt rfl ?_)
      | (refine Cmp.ff (by intro h;cases h) ?_)
      | (refine zae.of (za7 g _ _) ?_)
      | (refine zae.of (zcs g _ _) ?_)
      | (refine ze8.mk ⟨rfl,rfl,rfl,rfl,rfl,rfl,by show (l.length+1)*168<=_;omega,by omega⟩ ?_)
      | (exact hS))
  ·have h2:¬s=[78]:=fun h=>h1 (.inl h)
   have h3:¬s=[72]:=fun h=>h1 (.inr h)
   have h4:¬s=[82]:=fun h=>by have:=hr h;rw [hp] at this;cases this
   have hE:=hE 10 (z0s hp h2 h3 h4) (by decide)
   repeat' ((conv=>whnf);first
   | refine Yz ?_
     | (refine Mt _ (Nat.beq_refl _) ?_)
     | ((refine Mt _ ?_ ?_);focus ((repeat' (first |exact zan rfl|exact zan (Nat.beq_refl _)|((refine zam ?h ?_);(case h=>first |rfl|assumption))));done))
    | (refine hF ?_)
    | (refine Cmp.ff h2 ?_)
    | (refine Cmp.ff h3 ?_)
    | (refine Cmp.ff h4 ?_)
    | (exact hE))
 | some k=>
  have e:zrg q.nm l=k:=by unfold zrg;rw [hp]
  rw [e] at hF
  obtain⟨hk,hnm,_⟩:=zw5 hp
  by_cases h1:s=[78]\/s=[72]
  ·have hE:=hE 9 (zxe hp h1) (by decide)
   rcases h1 with rfl|rfl
   all_goals
    repeat' ((conv=>whnf);first
    | refine Yz ?_
     | (refine Mt _ (Nat.beq_refl _) ?_)
     | ((refine Mt _ ?_ ?_);focus ((repeat' (first |exact zan rfl|exact zan (Nat.beq_refl _)|((refine zam ?h ?_);(case h=>first |rfl|assumption))));done))
     | (refine hF ?_)
     | (refine Cmp.tt rfl ?_)
     | (refine Cmp.ff (by intro h;cases h) ?_)
     | (refine zae.of (za7 g _ _) ?_)
     | (refine zae.of (zcs g _ _) ?_)
     | (exact hE)
     | (refine Cmp.mk (fun h=> ?_) (fun h=> ?_))|(refine Rem.any (by omega) (fun r hr he=> ?_))|(refine Br.mk (fun h=> ?_) (fun h=> ?_))
     | (exfalso;omega))
  ·have h2:¬s=[78]:=fun h=>h1 (.inl h)
   have h3:¬s=[72]:=fun h=>h1 (.inr h)
   by_cases h4:s=[82]
   ·subst h4
    obtain⟨eE,eL⟩:=z0t (da:=da) hp hk
    have hS:=hS eE (by decide)
    have ep:patch (l.flatMap Ent.cells) ((0+((k:Nat):Int).toNat)*15) (Ent.cells ⟨q,l[k].hi,da⟩)=(l.set k ⟨q,l[k].hi,da⟩).flatMap Ent.cells:=by
     rw [show (0+((k:Nat):Int).toNat)*15=k*15 by omega]
     exact zwo l k ⟨q,l[k].hi,da⟩ hk
    rw [eL] at hS
    dsimp only [nB] at hS
    rw [List.length_set,<-ep] at hS
    repeat' ((conv=>whnf);first
    | refine Yz ?_
       | (refine Mt _ (Nat.beq_refl _) ?_)
       | ((refine Mt _ ?_ ?_);focus ((repeat' (first |exact zan rfl|exact zan (Nat.beq_refl _)|((refine zam ?h ?_);(case h=>first |rfl|assumption))));done))
     | (refine hF ?_)
     | (refine Cmp.tt rfl ?_)
     | (refine Cmp.ff (by intro h;cases h) ?_)
     | (refine zg4.rec0 (d:= .bool l[k].hi) Ent.cells_length k rfl hk rfl ?_)
     | (refine ze8.mk ⟨by omega,by omega,rfl,by omega,rfl⟩ ?_)
     | (refine ze8.mk ⟨rfl,by simp only [hfl ()];omega,rfl⟩ ?_)
     | (exact hS))
   ·obtain⟨eE,eL⟩:=z0u (da:=da) hp hk h2 h3 h4
    by_cases hq:l[k].rq=q
    ·rw [if_pos hq] at eE
     have hpp:l[k].rq.nm=q.nm/\l[k].rq.ca=q.ca/\l[k].rq.ki=q.ki/\l[k].rq.te=q.te/\l[k].rq.pa=q.pa/\l[k].rq.li=q.li/\l[k].rq.fr=q.fr/\l[k].rq.to=q.to/\l[k].rq.da=q.da/\l[k].rq.mi=q.mi/\l[k].rq.se=q.se/\l[k].rq.si=q.si/\l[k].rq.no=q.no:=by
      rw [hq]
      exact⟨rfl,rfl,rfl,rfl,rfl,rfl,rfl,rfl,rfl,rfl,rfl,rfl,rfl⟩
     by_cases h5:s=[68]
     ·subst h5
      have hD:=hD eE rfl
      rw [eL,if_pos rfl] at hD
      dsimp only [nB] at hD
      obtain⟨eA,eB⟩:=z0b l k hk
      have eAn:=(congrArg List.length eA).trans (show _=(k-0)*15 by rw [zah Ent.cells 15 Ent.cells_length,List.length_take];omega)
      have eBn:=(congrArg List.length eB).trans (show _=(l.length-(k+1))*15 by rw [zah Ent.cells 15 Ent.cells_length,List.length_drop])
      have hlen:(l.eraseIdx k).length=((l.length:Int)-1).toNat:=by rw [List.length_eraseIdx_of_lt hk];omega
      rw [hlen] at hD
      repeat' ((conv=>whnf);first
      | refine Yz ?_
       | (refine Mt _ (Nat.beq_refl _) ?_)
       | ((refine Mt _ ?_ ?_);focus ((repeat' (first |exact zan rfl|exact zan (Nat.beq_refl _)|((refine zam ?h ?_);(case h=>first |rfl|assumption))));done))
       | (refine hF ?_)
       | (refine Cmp.tt rfl ?_)
       | (refine Cmp.ff (by intro h;cases h) ?_)
       | (refine Cmp.tt hpp ?_)
       | (refine zal.part0 Ent.cells_length (j:=0) k rfl hk (by omega) rfl ?_)
       | (refine zff.at 0 k (by omega) (by omega) (by omega) ?_)
       | (refine zff.at k (l.length-1) (by omega) (by omega) (by omega) ?_)
       | (refine zff.at (k+1) l.length (by omega) (by omega) (by omega) ?_)
       | (refine ze8.mk ⟨rfl,by omega,rfl,eAn⟩ ?_)
       | (refine ze8.mk ⟨rfl,by omega,rfl,eBn⟩ ?_))
      rw [<-z0c l k hk eA eB] at hD
      exact hD
     ·have hS:=hS eE h5
      rw [eL,if_neg h5] at hS
      repeat' ((conv=>whnf);first
      | refine Yz ?_
       | (refine Mt _ (Nat.beq_refl _) ?_)
       | ((refine Mt _ ?_ ?_);focus ((repeat' (first |exact zan rfl|exact zan (Nat.beq_refl _)|((refine zam ?h ?_);(case h=>first |rfl|assumption))));done))
       | (refine hF ?_)
       | (refine Cmp.ff h2 ?_)
       | (refine Cmp.ff h3 ?_)
       | (refine Cmp.ff h4 ?_)
       | (refine Cmp.ff h5 ?_)
       | (refine Cmp.tt hpp ?_)
       | (refine zal.part0 Ent.cells_length (j:=0) k rfl hk (by omega) rfl ?_)
       | (exact hS))
    ·rw [if_neg hq] at eE
     have hE:=hE 29 eE (by decide)
     have hpp:¬(l[k].rq.nm=q.nm/\l[k].rq.ca=q.ca/\l[k].rq.ki=q.ki/\l[k].rq.te=q.te/\l[k].rq.pa=q.pa/\l[k].rq.li=q.li/\l[k].rq.fr=q.fr/\l[k].rq.to=q.to/\l[k].rq.da=q.da/\l[k].rq.mi=q.mi/\l[k].rq.se=q.se/\l[k].rq.si=q.si/\l[k].rq.no=q.no):=fun h=>hq (yap h)
     repeat' ((conv=>whnf);first
     | refine Yz ?_
       | (refine Mt _ (Nat.beq_refl _) ?_)
       | ((refine Mt _ ?_ ?_);focus ((repeat' (first |exact zan rfl|exact zan (Nat.beq_refl _)|((refine zam ?h ?_);(case h=>first |rfl|assumption))));done))
      | (refine hF ?_)
      | (refine Cmp.ff h2 ?_)
      | (refine Cmp.ff h3 ?_)
      | (refine Cmp.ff h4 ?_)
      | (refine Cmp.ff hpp ?_)
      | (refine zal.part0 Ent.cells_length (j:=0) k rfl hk (by omega) rfl ?_)
      | (exact hE))
end
end Go.Proofs.YtkgcnknhkobmjaaGreatDoor.Co
