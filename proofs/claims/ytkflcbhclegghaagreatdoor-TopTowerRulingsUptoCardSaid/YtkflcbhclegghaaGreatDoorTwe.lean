/-
  TopTowerRulings: what its law leans on, part 5.
-/
import Derived.Laws.RangeAny
import Derived.Lib.SplitLaws
import Derived.Test.YtkflcbhclegghaaGreatDoorEvX
import Derived.Test.YtkflcbhclegghaaGreatDoorEvY
import Derived.Test.YtkflcbhclegghaaGreatDoorRead
import Derived.Test.YtkflcbhclegghaaGreatDoorSpBase
import Derived.Test.YtkflcbhclegghaaGreatDoorTwd
namespace Go.Proofs.YtkflcbhclegghaaGreatDoor.Co
open Go Go.Evl
set_option maxHeartbeats 32000000
set_option maxRecDepth 100000
theorem yq1{l:Lmt}{i:Int}{x:Mvt}{w:Wnd}(h:w∈yqo l i x):w.1=i:=by
 unfold yqo at h
 split at h
 ·rcases List.mem_append.1 h with h|h<;>(unfold yww at h;obtain⟨b,_,rfl⟩:=List.mem_map.1 h;rfl)
 simp at h
theorem yhr{ls:List Lmt}{x:Mvt}{w:Wnd}(h:w∈z2c ls x):w.1=(w.1.toNat:Nat)/\w.1.toNat<ls.length:=by
 unfold z2c yer at h;obtain⟨i,hi,h⟩:=List.mem_flatMap.1 h;have:=yq1 h;have hi:=List.mem_range.1 hi;omega
structure ybg(ls:List Lmt)(es:List (Wnd×Int)):Prop where
 idx:∀p∈es,p.1.1=(p.1.1.toNat:Nat)/\p.1.1.toNat<ls.length
 nd:(es.map (·.1)).Nodup
theorem ybg.nil(ls:List Lmt):ybg ls []:=⟨λ_ h=>absurd h List.not_mem_nil,List.Pairwise.nil⟩
theorem z5t(w:Wnd)(n:Int):∀es:List (Wnd×Int),(∀v,v∈(ypj es w n).map (·.1)↔v=w\/v∈es.map (·.1))/\((es.map (·.1)).Nodup->((ypj es w n).map (·.1)).Nodup)
 |[]=>by simp[ypj]
 |p::r=>by
  obtain⟨h1,h2⟩:=z5t w n r;unfold ypj
  by_cases h:w=p.1
  ·rw[if_pos h];simp only[List.map_cons,List.mem_cons,h];exact⟨λv=>⟨λhv=>.inr hv,λhv=>hv.elim .inl id⟩,λhd=>hd⟩
  rw[if_neg h];simp only[List.map_cons,List.mem_cons,List.nodup_cons]
  refine⟨λv=>?_,λhd=>⟨λhm=>?_,h2 hd.2⟩⟩
  ·rw[h1 v]
   constructor
   ·rintro(h|h|h)
    ·exact .inr (.inl h)
    ·exact .inl h
    exact .inr (.inr h)
   rintro(h|h|h)
   ·exact .inr (.inl h)
   ·exact .inl h
   exact .inr (.inr h)
  rcases(h1 _).1 hm with e|hm
  ·exact h e.symm
  exact hd.1 hm
theorem ybg.set{ls:List Lmt}{es:List (Wnd×Int)}(h:ybg ls es){w:Wnd}(hw:w.1=(w.1.toNat:Nat)/\w.1.toNat<ls.length)(n:Int):ybg ls (ypj es w n):=by
 refine⟨λp hp=>?_,(z5t w n es).2 h.nd⟩
 rcases((z5t w n es).1 p.1).1 (List.mem_map_of_mem hp)with e|hm
 ·rw[e];exact hw
 obtain⟨q,hq,e⟩:=List.mem_map.1 hm;rw[<-e];exact h.idx q hq
theorem yif:∀{es:List (Wnd×Int)},(es.map (·.1)).Nodup->∀p∈es,zdr es p.1=p.2
 |[],_,p,h=>absurd h List.not_mem_nil
 |q::r,hd,p,h=>by
  rw[List.map_cons,List.nodup_cons]at hd
  rcases List.mem_cons.1 h with rfl|h
  ·rw[zdr,if_pos rfl]
  have hne:p.1≠q.1:=λe=>hd.1 (e▸List.mem_map_of_mem h)
  rw[zdr,if_neg hne,yif hd.2 p h]
theorem UB.mono{E:Oracle}{f:Nat}{ls:List Lmt}{av:List V}{es:List (Wnd×Int)}{ks:List Wnd}{Q R:V->List (Wnd×Int)->List Wnd->Prop}(h:UB E false f ls av es ks Q)(hqr:∀v es' ks',Q v es' ks'->R v es' ks'):UB E false f ls av es ks R:=by
 obtain⟨v,m1,h1,es',ks',h2,h3⟩:=h.got;exact⟨⟨v,m1,h1,es',ks',hqr _ _ _ h2,h3⟩⟩
section
variable{E:Oracle}(g:Good E)
include g
theorem ynt(ls:List Lmt)(hls:ls.length<=3)(hv:∀l∈ls,zgr l=0)(x:Mvt)(hx:0<=x.mo/\x.mo<=143999999)(ct:List (D×V))(hct:Evl.idsM ct=[])(ks:List Wnd){K:V->Mem->Prop}(hK:∀ks,K (LWn (z2c ls x)) (mBd ls ct (zjy ls ks))):
  In E 1 zch [.ptr ⟨0,0,0⟩ 0 0,Mvv x] (mBd ls ct (zjy ls ks)) λv m'=>zxy ⟨0,1⟩ 0 true v m' K:=by
 have hkb:=λks=>zkf ls ks
 refine In.enter (f:=zch) g.lim rfl rfl ?_
 repeat'((conv=>whnf);first|refine Yz ?_|fail)
 refine zab.to (zab.by (σ:=Nat×List Wnd) g (λu=>u.1<=ls.length)
  (λu=>[(0,.ptr ⟨0,0,0⟩ 0 0),(3,.ptr ⟨1,3,0⟩ 0 0),(5,.ref ⟨1,5,0⟩ 0 (yer ls x u.1).length (yer ls x u.1).length),(18,LLm ls),(19,I ls.length),(20,I u.1)])
  (λu=>mBd ls ct (zjy ls u.2)++[(⟨1,3,0⟩,.cells zac [I x.mo,S x.ki,S x.te,I x.se,I x.si,I x.no,S x.nm]),(⟨1,4,0⟩,.row false zaa 2 0 []),(⟨1,5,0⟩,.row false zaa 2 (yer ls x u.1).length ((yer ls x u.1).flatMap wndC))])
  (λu=>ls.length-u.1) ?_ (0,ks) (Nat.zero_le _)) rfl rfl
 rintro⟨k,ks⟩h1 ih;dsimp only at h1
 by_cases hlt:k<ls.length
 ·have hs:=ybj ls x k;have hal:=zxq ls hv x k (by omega);have e:ls.getD k default=ls[k]:=by simp[List.getD,hlt]
  rw[e]at hs;have hcnt:=ypc g ls[k] x;have ih:=λks=>ih (k+1,ks) (by dsimp only;omega) (by dsimp only;omega)
  dsimp only at ih;rw[hs]at ih;generalize yer ls x k=A at*;cases hb:cntB ls[k] x.ki x.te with
  | false=>
   rw[hb]at hcnt;rw[show yqo ls[k] k x=[]from by simp[yqo,hb],List.append_nil]at ih;have ih:=ih ks
   repeat'((conv=>whnf);first
   | refine Yz ?_
    | (apply zaf.of;assumption)
    | (refine za2.rec Lmt.cells_length k rfl hlt ?_)
    | (simp only[Evl.idsAll,Evl.idsO,hct,hkb,List.nil_append])
    | (refine zab.to ih rfl rfl)
    | fail)
  | true=>
   rw[hb]at hcnt
   repeat'((conv=>whnf);first|refine Yz ?_|(apply zaf.of;assumption)|refine za2.rec Lmt.cells_length k rfl hlt ?_|(simp only[])|fail)
   have hvl:=hv ls[k] (List.getElem_mem hlt);have hz:=zhx.1 hvl;have hdv:0<=x.mo/1440/\x.mo/1440<=99999:=by omega
   have ih:=λks=>by
    have:=ih ks;rw[show yqo ls[k] k x=yb6 ls[k] k x.mo 2 from by unfold yqo;rw[if_pos hb];rfl]at this;exact this
   have hAl:∀j,(A++yb6 ls[k] k x.mo j).length<=20000:=λj=>by
    have:=yre ls[k] hvl k x.mo j;rw[List.length_append];omega
   generalize hl:ls[k]=l at*
   refine zab.to (zab.by (σ:=Nat×List Wnd) g (λu=>u.1<=2)
    (λu=>[(0,.ptr ⟨0,0,0⟩ 0 0),(3,.ptr ⟨1,3,0⟩ 0 0),(5,.ref ⟨1,5,0⟩ 0 (A++yb6 l k x.mo u.1).length (A++yb6 l k x.mo u.1).length),(6,I k),(7,.ptr ⟨1,7,0⟩ 0 0),(18,LLm ls),(19,I ls.length),(20,I k),(36,.d (.agg [DI (x.mo/1440-1),DI (x.mo/1440)])),(37,I u.1)])
    (λu=>mBd ls ct (zjy ls u.2)++[(⟨1,3,0⟩,.cells zac [I x.mo,S x.ki,S x.te,I x.se,I x.si,I x.no,S x.nm]),(⟨1,4,0⟩,.row false zaa 2 0 []),(⟨1,5,0⟩,.row false zaa 2 (A++yb6 l k x.mo u.1).length ((A++yb6 l k x.mo u.1).flatMap wndC)),(⟨1,7,0⟩,.cells zai [S l.nm,S l.ki,S l.te,I l.le,I l.st,I l.fr,I l.to,I l.pf,I l.pt,I l.pd,I l.mo])])
    (λu=>2-u.1) ?_ (0,ks) (Nat.zero_le _)) (by rw[show A++yb6 l k x.mo 0=A from List.append_nil A];rfl) (by rw[show A++yb6 l k x.mo 0=A from List.append_nil A];rfl)
   rintro⟨j,ks⟩h1 ihj;dsimp only at h1;have hj:j=0\/j=1\/j=2:=by omega
   rcases hj with rfl|rfl|rfl
   ·clear ih;have ihj:=λks=>ihj (1,ks) (by dsimp only;omega) (by dsimp only;omega)
    dsimp only at ihj;rw[show yb6 l k x.mo 1=yb6 l k x.mo 0++znx l k x.mo (yev l (x.mo/1440-1))from rfl,<-List.append_assoc]at ihj;have hAl:=hAl 0;generalize A++yb6 l k x.mo 0=T at*;have hf:=z38 ls ((k:Int),x.mo/1440-1) ks;have hset:=yav ls ((k:Int),x.mo/1440-1) ks;dsimp only at hf hset;obtain⟨er,hbg⟩:=yuh g ls l hvl k e (x.mo/1440-1) (by omega);have hXr:=z67 l hvl (x.mo/1440-1) (by omega);have hXl:=z89 l hvl (x.mo/1440-1);have hXc:=z68 ls l k e (x.mo/1440-1);generalize yki ls ((k:Int),x.mo/1440-1)=bx at*;generalize yev l (x.mo/1440-1)=X at*
    rcases hXc with rfl|⟨rfl,rfl⟩
    ·by_cases hin:((k:Int),x.mo/1440-1)∈ks
     ·rw[if_pos hin]at hf
      repeat'((conv=>whnf);first|refine Yz ?_|refine zxi.mk ⟨_,hf,?_⟩|(simp only[])|fail)
      refine zab.to (zab.up g (λn=>[(0,.ptr ⟨0,0,0⟩ 0 0),(3,.ptr ⟨1,3,0⟩ 0 0),(5,.ref ⟨1,5,0⟩ 0 (T++znx l k x.mo (X.take n)).length (T++znx l k x.mo (X.take n)).length),(6,I k),(7,.ptr ⟨1,7,0⟩ 0 0),(18,LLm ls),(19,I ls.length),(20,I k),(36,.d (.agg [DI (x.mo/1440-1),DI (x.mo/1440)])),(37,I (0:Nat)),(66,LI X),(67,I X.length),(68,I n)])
       (λn=>mBd ls ct (zjy ls (ks))++[(⟨1,3,0⟩,.cells zac [I x.mo,S x.ki,S x.te,I x.se,I x.si,I x.no,S x.nm]),(⟨1,4,0⟩,.row false zaa 2 0 []),(⟨1,5,0⟩,.row false zaa 2 (T++znx l k x.mo (X.take n)).length ((T++znx l k x.mo (X.take n)).flatMap wndC)),(⟨1,7,0⟩,.cells zai [S l.nm,S l.ki,S l.te,I l.le,I l.st,I l.fr,I l.to,I l.pf,I l.pt,I l.pd,I l.mo]),(⟨1,10,0⟩,.cells zaa [I k,I (x.mo/1440-1)])])
       X.length (λn hn ihn=>?_) 0 (Nat.zero_le _)) (by rw[List.take_zero,show znx l k x.mo []=[]from rfl,List.append_nil];rfl) (by rw[List.take_zero,show znx l k x.mo []=[]from rfl,List.append_nil];rfl)
      by_cases hln:n<X.length
      ·have ihn:=ihn hln
       have hTn:(T++znx l k x.mo (X.take n)).length<=40000:=by
        have:=z2b l k x.mo (X.take n);rw[List.length_take]at this;rw[List.length_append];omega
       rw[zxr l k x.mo hln,<-List.append_assoc]at ihn;have hbr:=hXr X[n] (List.getElem_mem hln);generalize T++znx l k x.mo (X.take n)=U at*;have hfl:=zae wndC 2 zcy U
       by_cases hc:X[n]<=x.mo/\x.mo<X[n]+l.le
       ·rw[if_pos hc]at ihn
        repeat'((conv=>whnf);first|refine Yz ?_|refine zgp.intI n rfl hln ?_|refine zem.mk (by simp;omega) ?_|(simp only[Evl.idsAll,Evl.idsO,hct,hkb,List.nil_append])|refine zab.to ihn ?_ ?_|fail)
        ·simp only[List.length_append,List.length_singleton];rfl
        simp only[List.length_append,List.length_singleton,List.flatMap_append];rfl
       rw[if_neg hc,List.append_nil]at ihn;by_cases hc1:X[n]<=x.mo
       all_goals repeat'((conv=>whnf);first|refine Yz ?_|refine zgp.intI n rfl hln ?_|(simp only[Evl.idsAll,Evl.idsO,hct,hkb,List.nil_append])|refine zab.to ihn rfl rfl|fail)
      obtain rfl:n=X.length:=by omega
      have ihj:=ihj (ks);rw[<-List.take_length (l:=X)]at ihj;generalize znx l k x.mo (X.take X.length)=Y at*
      repeat'((conv=>whnf);first|refine Yz ?_|(simp only[mBd,List.cons_append,Evl.idsAll,Evl.idsO,hct,hkb,List.nil_append])|refine zab.to ihj rfl rfl|fail)
     rw[if_neg hin]at hf;replace hset:=hset hin
     repeat'((conv=>whnf);first|refine Yz ?_|(apply zaf.of;assumption)|refine zxi.mk ⟨_,hf,?_⟩|refine yql.mk ⟨_,hset,?_⟩|(simp only[])|fail)
     refine zab.to (zab.up g (λn=>[(0,.ptr ⟨0,0,0⟩ 0 0),(3,.ptr ⟨1,3,0⟩ 0 0),(5,.ref ⟨1,5,0⟩ 0 (T++znx l k x.mo (X.take n)).length (T++znx l k x.mo (X.take n)).length),(6,I k),(7,.ptr ⟨1,7,0⟩ 0 0),(18,LLm ls),(19,I ls.length),(20,I k),(36,.d (.agg [DI (x.mo/1440-1),DI (x.mo/1440)])),(37,I (0:Nat)),(66,LI X),(67,I X.length),(68,I n)])
      (λn=>mBd ls ct (zjy ls (ks++[((k:Int),x.mo/1440-1)]))++[(⟨1,3,0⟩,.cells zac [I x.mo,S x.ki,S x.te,I x.se,I x.si,I x.no,S x.nm]),(⟨1,4,0⟩,.row false zaa 2 0 []),(⟨1,5,0⟩,.row false zaa 2 (T++znx l k x.mo (X.take n)).length ((T++znx l k x.mo (X.take n)).flatMap wndC)),(⟨1,7,0⟩,.cells zai [S l.nm,S l.ki,S l.te,I l.le,I l.st,I l.fr,I l.to,I l.pf,I l.pt,I l.pd,I l.mo]),(⟨1,10,0⟩,.cells zaa [I k,I (x.mo/1440-1)])])
      X.length (λn hn ihn=>?_) 0 (Nat.zero_le _)) (by rw[List.take_zero,show znx l k x.mo []=[]from rfl,List.append_nil];rfl) (by rw[List.take_zero,show znx l k x.mo []=[]from rfl,List.append_nil];rfl)
     by_cases hln:n<X.length
     ·have ihn:=ihn hln
      have hTn:(T++znx l k x.mo (X.take n)).length<=40000:=by
       have:=z2b l k x.mo (X.take n);rw[List.length_take]at this;rw[List.length_append];omega
      rw[zxr l k x.mo hln,<-List.append_assoc]at ihn;have hbr:=hXr X[n] (List.getElem_mem hln);generalize T++znx l k x.mo (X.take n)=U at*;have hfl:=zae wndC 2 zcy U
      by_cases hc:X[n]<=x.mo/\x.mo<X[n]+l.le
      ·rw[if_pos hc]at ihn
       repeat'((conv=>whnf);first|refine Yz ?_|refine zgp.intI n rfl hln ?_|refine zem.mk (by simp;omega) ?_|(simp only[Evl.idsAll,Evl.idsO,hct,hkb,List.nil_append])|refine zab.to ihn ?_ ?_|fail)
       ·simp only[List.length_append,List.length_singleton];rfl
       simp only[List.length_append,List.length_singleton,List.flatMap_append];rfl
      rw[if_neg hc,List.append_nil]at ihn;by_cases hc1:X[n]<=x.mo
      all_goals repeat'((conv=>whnf);first|refine Yz ?_|refine zgp.intI n rfl hln ?_|(simp only[Evl.idsAll,Evl.idsO,hct,hkb,List.nil_append])|refine zab.to ihn rfl rfl|fail)
     obtain rfl:n=X.length:=by omega
     have ihj:=ihj (ks++[((k:Int),x.mo/1440-1)]);rw[<-List.take_length (l:=X)]at ihj;generalize znx l k x.mo (X.take X.length)=Y at*
     repeat'((conv=>whnf);first|refine Yz ?_|(simp only[mBd,List.cons_append,Evl.idsAll,Evl.idsO,hct,hkb,List.nil_append])|refine zab.to ihj rfl rfl|fail)
    rw[show znx l k x.mo []=[]from rfl,List.append_nil]at ihj
    by_cases hin:((k:Int),x.mo/1440-1)∈ks
    ·rw[if_pos hin]at hf;have ihj:=ihj ks
     repeat'((conv=>whnf);first|refine Yz ?_|refine zxi.mk ⟨_,hf,?_⟩|refine zab.to ihj rfl rfl|refine zab.step g.lim ?_|(simp only[Evl.idsAll,Evl.idsO,hct,hkb,List.nil_append])|fail)
    rw[if_neg hin]at hf;replace hset:=hset hin;have ihj:=ihj (ks++[((k:Int),x.mo/1440-1)])
    repeat'((conv=>whnf);first|refine Yz ?_|(apply zaf.of;assumption)|refine zxi.mk ⟨_,hf,?_⟩|refine yql.mk ⟨_,hset,?_⟩|refine zab.to ihj rfl rfl|refine zab.step g.lim ?_|(simp only[Evl.idsAll,Evl.idsO,hct,hkb,List.nil_append])|fail)
   ·clear ih;have ihj:=λks=>ihj (2,ks) (by dsimp only;omega) (by dsimp only;omega)
    dsimp only at ihj;rw[show yb6 l k x.mo 2=yb6 l k x.mo 1++znx l k x.mo (yev l (x.mo/1440))from rfl,<-List.append_assoc]at ihj;have hAl:=hAl 1;generalize A++yb6 l k x.mo 1=T at*;have hf:=z38 ls ((k:Int),x.mo/1440) ks;have hset:=yav ls ((k:Int),x.mo/1440) ks;dsimp only at hf hset;obtain⟨er,hbg⟩:=yuh g ls l hvl k e (x.mo/1440) (by omega);have hXr:=z67 l hvl (x.mo/1440) (by omega);have hXl:=z89 l hvl (x.mo/1440);have hXc:=z68 ls l k e (x.mo/1440);generalize yki ls ((k:Int),x.mo/1440)=bx at*;generalize yev l (x.mo/1440)=X at*
    rcases hXc with rfl|⟨rfl,rfl⟩
    ·by_cases hin:((k:Int),x.mo/1440)∈ks
     ·rw[if_pos hin]at hf
      repeat'((conv=>whnf);first|refine Yz ?_|refine zxi.mk ⟨_,hf,?_⟩|(simp only[])|fail)
      refine zab.to (zab.up g (λn=>[(0,.ptr ⟨0,0,0⟩ 0 0),(3,.ptr ⟨1,3,0⟩ 0 0),(5,.ref ⟨1,5,0⟩ 0 (T++znx l k x.mo (X.take n)).length (T++znx l k x.mo (X.take n)).length),(6,I k),(7,.ptr ⟨1,7,0⟩ 0 0),(18,LLm ls),(19,I ls.length),(20,I k),(36,.d (.agg [DI (x.mo/1440-1),DI (x.mo/1440)])),(37,I (1:Nat)),(66,LI X),(67,I X.length),(68,I n)])
       (λn=>mBd ls ct (zjy ls (ks))++[(⟨1,3,0⟩,.cells zac [I x.mo,S x.ki,S x.te,I x.se,I x.si,I x.no,S x.nm]),(⟨1,4,0⟩,.row false zaa 2 0 []),(⟨1,5,0⟩,.row false zaa 2 (T++znx l k x.mo (X.take n)).length ((T++znx l k x.mo (X.take n)).flatMap wndC)),(⟨1,7,0⟩,.cells zai [S l.nm,S l.ki,S l.te,I l.le,I l.st,I l.fr,I l.to,I l.pf,I l.pt,I l.pd,I l.mo]),(⟨1,10,0⟩,.cells zaa [I k,I (x.mo/1440)])])
       X.length (λn hn ihn=>?_) 0 (Nat.zero_le _)) (by rw[List.take_zero,show znx l k x.mo []=[]from rfl,List.append_nil];rfl) (by rw[List.take_zero,show znx l k x.mo []=[]from rfl,List.append_nil];rfl)
      by_cases hln:n<X.length
      ·have ihn:=ihn hln
       have hTn:(T++znx l k x.mo (X.take n)).length<=40000:=by
        have:=z2b l k x.mo (X.take n);rw[List.length_take]at this;rw[List.length_append];omega
       rw[zxr l k x.mo hln,<-List.append_assoc]at ihn;have hbr:=hXr X[n] (List.getElem_mem hln);generalize T++znx l k x.mo (X.take n)=U at*;have hfl:=zae wndC 2 zcy U
       by_cases hc:X[n]<=x.mo/\x.mo<X[n]+l.le
       ·rw[if_pos hc]at ihn
        repeat'((conv=>whnf);first|refine Yz ?_|refine zgp.intI n rfl hln ?_|refine zem.mk (by simp;omega) ?_|(simp only[Evl.idsAll,Evl.idsO,hct,hkb,List.nil_append])|refine zab.to ihn ?_ ?_|fail)
        ·simp only[List.length_append,List.length_singleton];rfl
        simp only[List.length_append,List.length_singleton,List.flatMap_append];rfl
       rw[if_neg hc,List.append_nil]at ihn;by_cases hc1:X[n]<=x.mo
       all_goals repeat'((conv=>whnf);first|refine Yz ?_|refine zgp.intI n rfl hln ?_|(simp only[Evl.idsAll,Evl.idsO,hct,hkb,List.nil_append])|refine zab.to ihn rfl rfl|fail)
      obtain rfl:n=X.length:=by omega
      have ihj:=ihj (ks);rw[<-List.take_length (l:=X)]at ihj;generalize znx l k x.mo (X.take X.length)=Y at*
      repeat'((conv=>whnf);first|refine Yz ?_|(simp only[mBd,List.cons_append,Evl.idsAll,Evl.idsO,hct,hkb,List.nil_append])|refine zab.to ihj rfl rfl|fail)
     rw[if_neg hin]at hf;replace hset:=hset hin
     repeat'((conv=>whnf);first|refine Yz ?_|(apply zaf.of;assumption)|refine zxi.mk ⟨_,hf,?_⟩|refine yql.mk ⟨_,hset,?_⟩|(simp only[])|fail)
     refine zab.to (zab.up g (λn=>[(0,.ptr ⟨0,0,0⟩ 0 0),(3,.ptr ⟨1,3,0⟩ 0 0),(5,.ref ⟨1,5,0⟩ 0 (T++znx l k x.mo (X.take n)).length (T++znx l k x.mo (X.take n)).length),(6,I k),(7,.ptr ⟨1,7,0⟩ 0 0),(18,LLm ls),(19,I ls.length),(20,I k),(36,.d (.agg [DI (x.mo/1440-1),DI (x.mo/1440)])),(37,I (1:Nat)),(66,LI X),(67,I X.length),(68,I n)])
      (λn=>mBd ls ct (zjy ls (ks++[((k:Int),x.mo/1440)]))++[(⟨1,3,0⟩,.cells zac [I x.mo,S x.ki,S x.te,I x.se,I x.si,I x.no,S x.nm]),(⟨1,4,0⟩,.row false zaa 2 0 []),(⟨1,5,0⟩,.row false zaa 2 (T++znx l k x.mo (X.take n)).length ((T++znx l k x.mo (X.take n)).flatMap wndC)),(⟨1,7,0⟩,.cells zai [S l.nm,S l.ki,S l.te,I l.le,I l.st,I l.fr,I l.to,I l.pf,I l.pt,I l.pd,I l.mo]),(⟨1,10,0⟩,.cells zaa [I k,I (x.mo/1440)])])
      X.length (λn hn ihn=>?_) 0 (Nat.zero_le _)) (by rw[List.take_zero,show znx l k x.mo []=[]from rfl,List.append_nil];rfl) (by rw[List.take_zero,show znx l k x.mo []=[]from rfl,List.append_nil];rfl)
     by_cases hln:n<X.length
     ·have ihn:=ihn hln
      have hTn:(T++znx l k x.mo (X.take n)).length<=40000:=by
       have:=z2b l k x.mo (X.take n);rw[List.length_take]at this;rw[List.length_append];omega
      rw[zxr l k x.mo hln,<-List.append_assoc]at ihn;have hbr:=hXr X[n] (List.getElem_mem hln);generalize T++znx l k x.mo (X.take n)=U at*;have hfl:=zae wndC 2 zcy U
      by_cases hc:X[n]<=x.mo/\x.mo<X[n]+l.le
      ·rw[if_pos hc]at ihn
       repeat'((conv=>whnf);first|refine Yz ?_|refine zgp.intI n rfl hln ?_|refine zem.mk (by simp;omega) ?_|(simp only[Evl.idsAll,Evl.idsO,hct,hkb,List.nil_append])|refine zab.to ihn ?_ ?_|fail)
       ·simp only[List.length_append,List.length_singleton];rfl
       simp only[List.length_append,List.length_singleton,List.flatMap_append];rfl
      rw[if_neg hc,List.append_nil]at ihn;by_cases hc1:X[n]<=x.mo
      all_goals repeat'((conv=>whnf);first|refine Yz ?_|refine zgp.intI n rfl hln ?_|(simp only[Evl.idsAll,Evl.idsO,hct,hkb,List.nil_append])|refine zab.to ihn rfl rfl|fail)
     obtain rfl:n=X.length:=by omega
     have ihj:=ihj (ks++[((k:Int),x.mo/1440)]);rw[<-List.take_length (l:=X)]at ihj;generalize znx l k x.mo (X.take X.length)=Y at*
     repeat'((conv=>whnf);first|refine Yz ?_|(simp only[mBd,List.cons_append,Evl.idsAll,Evl.idsO,hct,hkb,List.nil_append])|refine zab.to ihj rfl rfl|fail)
    rw[show znx l k x.mo []=[]from rfl,List.append_nil]at ihj
    by_cases hin:((k:Int),x.mo/1440)∈ks
    ·rw[if_pos hin]at hf;have ihj:=ihj ks
     repeat'((conv=>whnf);first|refine Yz ?_|refine zxi.mk ⟨_,hf,?_⟩|refine zab.to ihj rfl rfl|refine zab.step g.lim ?_|(simp only[Evl.idsAll,Evl.idsO,hct,hkb,List.nil_append])|fail)
    rw[if_neg hin]at hf;replace hset:=hset hin;have ihj:=ihj (ks++[((k:Int),x.mo/1440)])
    repeat'((conv=>whnf);first|refine Yz ?_|(apply zaf.of;assumption)|refine zxi.mk ⟨_,hf,?_⟩|refine yql.mk ⟨_,hset,?_⟩|refine zab.to ihj rfl rfl|refine zab.step g.lim ?_|(simp only[Evl.idsAll,Evl.idsO,hct,hkb,List.nil_append])|fail)
   have ih:=ih ks;generalize A++yb6 l k x.mo 2=T at*
   repeat'((conv=>whnf);first|refine Yz ?_|(simp only[mBd,List.cons_append,Evl.idsAll,Evl.idsO,hct,hkb,List.nil_append])|refine zab.to ih rfl rfl|fail)
 obtain rfl:k=ls.length:=by omega
 clear ih;have hK:=hK ks;unfold z2c at hK;have hfl:=zae wndC 2 zcy (yer ls x ls.length);generalize yer ls x ls.length=A at*
 repeat'((conv=>whnf);first|refine Yz ?_|(simp only[Evl.idsAll,Evl.idsO,hct,hkb,List.nil_append])|fail)
 rw[if_pos (by simp)];exact hK
theorem ykb(ls:List Lmt)(hls:ls.length<=3)(hv:∀l∈ls,zgr l=0)(x:Mvt)(hx:0<=x.mo/\x.mo<=143999999)(es:List (Wnd×Int))(ks:List Wnd):UB E true zch ls [Mvv x] es ks λv es' _=>v=LWn (z2c ls x)/\es'=es:=
 ⟨ynt g ls hls hv x hx (zmb es) (zlj es) ks (K:=λv' m'=>∃es' ks',(v'=LWn (z2c ls x)/\es'=es)/\zvi m' (mBd ls (zmb es') (zjy ls ks'))) λks=>⟨es,ks,⟨rfl,rfl⟩,rfl,rfl,rfl,trivial⟩⟩
theorem yvd(ls:List Lmt)(hls:ls.length<=3)(hv:∀l∈ls,zgr l=0)(x:Mvt)(hx:0<=x.mo/\x.mo<=143999999)(t:Int)(ht:-1<=t/\t<=1)(es:List (Wnd×Int))(hes:∀w,-1000000000<=zdr es w/\zdr es w<=1000000000)(ks:List Wnd){K:V->Mem->Prop}
  (hK:∀es' ks,(∀w,zdr es' w=zdr es w+t*((z2c ls x).count w:Nat))->(ybg ls es->ybg ls es')->K (.tup []) (mBd ls (zmb es') (zjy ls ks)++[(⟨1,4,0⟩,.cells zac (mvC x))])):
  In E 1 zbr [.ptr ⟨0,0,0⟩ 0 0,Mvv x,I t] (mBd ls (zmb es) (zjy ls ks)) K:=by
 have hkb:=λks=>zkf ls ks
 have hct:=λes=>zlj es
 refine In.enter (f:=zbr) g.lim rfl rfl ?_;have har:=ykb g ls hls hv x hx es ks;have hlen:=zxq ls hv x ls.length (Nat.le_refl _);have hidx:=λw(hw:w∈z2c ls x)=>yhr hw
 unfold z2c at hK har hidx;generalize yer ls x ls.length=W at*
 repeat'((conv=>whnf);first|refine Yz ?_|(refine UpdB.of (b0:=⟨0,0,0⟩) har rfl rfl (by decide) rfl rfl rfl (by rintro v es' ks'⟨rfl,rfl⟩;exact⟨λ_=>rfl,rfl⟩) ?_;rintro v es' ks⟨rfl,he⟩;rw[he])|fail)
 rename_i ks
 refine zab.to (zab.by (σ:=Nat×List (Wnd×Int)) g (λu=>u.1<=W.length/\(∀w,zdr u.2 w=zdr es w+t*((W.take u.1).count w:Nat))/\(ybg ls es->ybg ls u.2))
  (λu=>[(0,.ptr ⟨0,0,0⟩ 0 0),(2,I t),(10,LWn W),(11,I W.length),(12,I u.1)])
  (λu=>mBd ls (zmb u.2) (zjy ls ks)++[(⟨1,4,0⟩,.cells zac (mvC x))])
  (λu=>W.length-u.1) ?_ (0,es) ⟨Nat.zero_le _,λw=>by simp,id⟩) rfl rfl
 rintro⟨n,es'⟩⟨h1,hc,hkey⟩ih;dsimp only at h1 hc hkey
 by_cases hlt:n<W.length
 ·have ih:=ih (n+1,ypj es' W[n] (zdr es' W[n]+t)) ⟨by dsimp only;omega,λw=>by
   dsimp only;rw[yig,List.take_add_one,List.getElem?_eq_getElem hlt,List.count_append,Option.toList_some,List.count_singleton]
   by_cases e:w=W[n]
   ·subst e;rw[if_pos rfl,hc,if_pos (by simp)];rw[Int.natCast_add,Int.mul_add];omega
   rw[if_neg e,hc,if_neg (by simpa using Ne.symm e)]
   simp,λhk=>(hkey hk).set (hidx _ (List.getElem_mem hlt)) _⟩ (by dsimp only;omega)
  dsimp only at ih;have hf:=z4a W[n] es';have hset:=yj1 W[n] (zdr es' W[n]+t) es';have hb1:=hes W[n];have hb2:=hc W[n]
  have hb3:(W.take n).count W[n]<=8640:=by
   refine Nat.le_trans (List.count_le_length ..) ?_;rw[List.length_take];omega
  have hb:-1000010000<=zdr es' W[n]/\zdr es' W[n]<=1000010000:=by
   have ht3:t=-1\/t=0\/t=1:=by omega
   rcases ht3 with rfl|rfl|rfl<;>omega
  by_cases hin:W[n]∈es'.map (·.1)
  ·rw[if_pos hin]at hf;generalize zdr es' W[n]=c at*
   repeat'((conv=>whnf);first|refine Yz ?_|refine za2.rec zcy n rfl hlt ?_|refine zxi.mk ⟨_,hf,?_⟩|refine yql.mk ⟨_,hset,?_⟩|(simp only[Evl.idsAll,Evl.idsO,hct,hkb,List.nil_append])|refine zab.to ih rfl rfl|fail)
  rw[if_neg hin]at hf;rw[z4g _ _ hin]at*
  repeat'((conv=>whnf);first|refine Yz ?_|refine za2.rec zcy n rfl hlt ?_|refine zxi.mk ⟨_,hf,?_⟩|refine yql.mk ⟨_,hset,?_⟩|(simp only[Evl.idsAll,Evl.idsO,hct,hkb,List.nil_append])|refine zab.to ih rfl rfl|fail)
 obtain rfl:n=W.length:=by omega
 clear ih;rw[List.take_length]at hc;have hK:=hK es' ks hc hkey
 repeat'((conv=>whnf);first|refine Yz ?_|exact hK|(simp only[mBd,List.cons_append,Evl.idsAll,Evl.idsO,hct,hkb,List.nil_append])|fail)
theorem yuk(ls:List Lmt)(hls:ls.length<=3)(hv:∀l∈ls,zgr l=0)(x:Mvt)(hx:0<=x.mo/\x.mo<=143999999)(t:Int)(ht:-1<=t/\t<=1)(es:List (Wnd×Int))(hes:∀w,-1000000000<=zdr es w/\zdr es w<=1000000000)(ks:List Wnd):UB E false zbr ls [Mvv x,I t] es ks λv es' _=>v=.tup []/\(∀w,zdr es' w=zdr es w+t*((z2c ls x).count w:Nat))/\(ybg ls es->ybg ls es'):=
 ⟨yvd g ls hls hv x hx t ht es hes ks (K:=λv m1=>∃es' ks',(v=.tup []/\(∀w,zdr es' w=zdr es w+t*((z2c ls x).count w:Nat))/\(ybg ls es->ybg ls es'))/\zvi m1 (mBd ls (zmb es') (zjy ls ks'))) λes' ks h h2=>⟨es',ks,⟨rfl,h,h2⟩,rfl,rfl,rfl,trivial⟩⟩
theorem yyv(ls:List Lmt)(hls:ls.length<=3)(hv:∀l∈ls,zgr l=0)(x:Mvt)(hx:0<=x.mo/\x.mo<=143999999)(t:Int)(ht:-1<=t/\t<=1)(es:List (Wnd×Int))(hes:∀w,-1000000000<=zdr es w/\zdr es w<=1000000000)(ks:List Wnd):UB E false zbr ls [Mvv x,I t] es ks λv es' _=>v=.tup []/\∀w,zdr es' w=zdr es w+t*((z2c ls x).count w:Nat):=
 (yuk g ls hls hv x hx t ht es hes ks).mono λ_ _ _ h=>⟨h.1,h.2.1⟩
end
structure Us(E:Oracle)(f:Nat)(as0:List V)(m0:Mem)(r:V)(m2:Mem):Prop where
 got:In E 1 f as0 m0 λv m1=>v=r/\zvi m1 m2
theorem z7t(m1:Mem):∀(m:Mem)(i:Evl.Id)(o:Ob),zvi m1 m->Evl.look m i=some o->Evl.look m1 i=some o
 |[],_,_,_,h=>by simp[Evl.look]at h
 |(j,x)::r,i,o,⟨h1,h2⟩,h=>by
  simp only[Evl.look]at h
  split at h
  ·rename_i e;subst e;obtain rfl:=Option.some.inj h;exact h1
  exact z7t m1 r i o h2 h
theorem z64{σ:List (Evl.Id×Evl.Id)}{m1 m2:Mem}(hk:zvi m1 m2):∀(l:List (Evl.Id×Evl.Id))(m m':Mem),zvl σ m2 l m=some m'->zvl σ m1 l m=some m'
 |[],_,_,h=>h
 |(a,b)::r,m,m',h=>by
  simp only[zvl]at h⊢;cases hl:Evl.look m2 b with
  |none=>rw[hl]at h;cases h
  |some o=>
   rw[hl]at h;rw[z7t m1 m2 b o hk hl];dsimp only at h⊢
   split at h
   ·rename_i hc;rw[if_pos hc];exact z64 hk r _ m' h
   cases h
theorem zuu.of{E:Oracle}{f:Nat}{first caps args as0:List V}{m m0 m2 m':Mem}{r r':V}{K:V->Mem->Prop}(is:List Evl.Id)(his:reach 0 m 64 (zev ((first++args++caps).map (z0i m))) []=is)
  (hc:(within is 0 (zev ((first++args++caps).map (z0i m)))&&movable is 0 m)=true)(has:zrp (number ⟨0,0⟩ 0 0 is) ((first++args++caps).map (z0i m))=as0)(hm:moved (number ⟨0,0⟩ 0 0 is) m (number ⟨0,0⟩ 0 0 is)=m0)
  (hq:Us E f as0 m0 r m2)(hb:zvl (number ⟨0,0⟩ 0 0 is) m2 (number ⟨0,0⟩ 0 0 is) m=some m')(hid:(ids r).all (λi=>((number ⟨0,0⟩ 0 0 is).map (·.2)).elem i)=true)(hr:ren (zpk (number ⟨0,0⟩ 0 0 is)) r=r')(hk:K r' m'):zuu E false (.fn f first caps) args m K:=by
 obtain⟨v,m1,h1,rfl,h3⟩:=hq.got;refine⟨r',m',?_,hk⟩;simp only[zt2,his,hc,if_true,has,hm,h1];rw[if_neg (by decide),hid,z64 h3 _ _ _ hb,<-hr]
 rfl
def ddW(l:List Wnd):Nat->List Wnd
 |0=>[]
 |k+1=>ddW l k++if k=0\/l.getD k (0,0)≠l.getD (k-1) (0,0)then [l.getD k (0,0)]else []
theorem yb7(l:List Wnd):∀k,(ddW l k).length<=k
 |0=>by simp[ddW]
 |k+1=>by
  have:=yb7 l k;simp only[ddW,List.length_append];split<;>simp<;>omega
def z5g(l:List Wnd)(j:Nat):List Wnd:=ddW l j++l.drop (ddW l j).length
theorem ygp(l:List Wnd)(j:Nat)(h:j<=l.length):(z5g l j).length=l.length:=by
 have:=yb7 l j;simp[z5g];omega
theorem yjq(l:List Wnd)(j i:Nat)(h1:(ddW l j).length<=i):(z5g l j).getD i (0,0)=l.getD i (0,0):=by
 unfold z5g;simp only[List.getD];rw[List.getElem?_append_right h1,List.getElem?_drop];congr 2;omega
theorem yo6(l:List Wnd)(j:Nat)(h:¬(j=0\/l.getD j (0,0)≠l.getD (j-1) (0,0))):z5g l (j+1)=z5g l j:=by
 unfold z5g;simp only[ddW,if_neg h,List.append_nil]
theorem ysl(l:List Wnd)(j:Nat)(h:j=0\/l.getD j (0,0)≠l.getD (j-1) (0,0))(hj:j<l.length):z5g l (j+1)=(z5g l j).set (ddW l j).length (l.getD j (0,0)):=by
 have hle:=yb7 l j;unfold z5g;simp only[ddW,if_pos h,List.length_append,List.length_singleton];rw[List.set_append_right _ _ (Nat.le_refl _),Nat.sub_self,List.drop_eq_getElem_cons (show(ddW l j).length<l.length by omega),List.set_cons_zero];simp only[List.append_assoc,List.singleton_append]
theorem yfb(l:List Wnd):∀k,(∀i,0<i->i<k->l.getD i (0,0)≠l.getD (i-1) (0,0))->k<=l.length->ddW l k=l.take k
 |0,_,_=>rfl
 |k+1,h,hk=>by
  have:=yfb l k (λi h1 h2=>h i h1 (by omega)) (by omega);simp only[ddW];rw[if_pos (by rcases Nat.eq_zero_or_pos k with h0|h0;exact .inl h0;exact .inr (h k h0 (by omega))),this,List.take_add_one,List.getElem?_eq_getElem (show k<l.length by omega)];simp[List.getD,List.getElem?_eq_getElem (show k<l.length by omega)]
theorem yna(l:List Wnd):∀k,0<k->0<(ddW l k).length
 |0,h=>absurd h (Nat.lt_irrefl 0)
 |1,_=>by simp[ddW]
 |k+2,_=>by
  have:=yna l (k+1) (by omega);rw[ddW,List.length_append];omega
def ybz(l:List Wnd):List Wnd:=ddW l l.length
theorem yrb(l:List Wnd):ybz l=[]↔l=[]:=by
 constructor
 ·intro h
  rcases l with _|⟨a,r⟩
  ·rfl
  have:=yna (a::r) (a::r).length (by simp);unfold ybz at h;rw[h]at this;exact absurd this (by simp)
 rintro rfl;rfl
theorem za2.atW{l:List Wnd}{n:Nat}{K:List D->Prop}(p:Nat)(hp:n=p*2)(h:p<l.length)(hk:K (wndC (l.getD p (0,0)))):za2 (l.flatMap wndC) n 2 K:=by
 subst hp;have hl:=zae wndC 2 zcy l;refine za2.now (by omega) (zei wndC 2 zcy l p h) ?_;have:l.getD p (0,0)=l[p]:=by simp[List.getD,h]
 rwa[this]at hk
theorem yx4(l:List Wnd)(k:Nat)(hk:k<l.length)(x:Wnd):patch (l.flatMap wndC) (k*2) (wndC x)=(l.set k x).flatMap wndC:=by
 have h1:=zae wndC 2 zcy (l.take k);have h2:(l.take k).length=k:=by simp;omega
 rw[h2]at h1
 conv=>lhs;rw[<-List.take_append_drop k l,List.drop_eq_getElem_cons hk]
 rw[List.flatMap_append,List.flatMap_cons,List.set_eq_take_append_cons_drop,if_pos hk,List.flatMap_append,List.flatMap_cons];unfold patch;rw[<-h1,List.take_left,List.drop_append,List.drop_of_length_le (by omega)];simp[wndC]
abbrev rwW(n:Nat)(xs:List D):Mem:=[(⟨0,0,0⟩,.row true zaa 2 n xs)]
section
variable{E:Oracle}(g:Good E)
include g
theorem yfp(l:List Wnd)(hl:l.length<=100000000){K:V->Mem->Prop}
  (hK:∀xs:List D,xs.length=l.length*2->xs.take ((ybz l).length*2)=(ybz l).flatMap wndC->K (.ref ⟨0,0,0⟩ 0 (ybz l).length l.length) [(⟨0,0,0⟩,.row true zaa 2 l.length xs),(⟨1,2,0⟩,.row true zaa 2 0 [])]):
  In E 1 zax [.ref ⟨0,0,0⟩ 0 l.length l.length] (rwW l.length (l.flatMap wndC)) K:=by
 unfold ybz at hK;refine In.enter (f:=zax) g.lim rfl rfl ?_;have hfl:=λ_:Unit=>zae wndC 2 zcy l
 have hsame:(∀i,0<i->i<l.length->l.getD i (0,0)≠l.getD (i-1) (0,0))->K (.ref ⟨0,0,0⟩ 0 l.length l.length) [(⟨0,0,0⟩,.row true zaa 2 l.length (l.flatMap wndC)),(⟨1,2,0⟩,.row true zaa 2 0 [])]:=by
  intro h;have h1:=yfb l l.length h (Nat.le_refl _);rw[List.take_length]at h1;have:=hK (l.flatMap wndC) (hfl ()) (by rw[h1,List.take_of_length_le (by rw[hfl ()];omega)])
  rwa[h1]at this
 by_cases h2:l.length<2
 ·repeat'((conv=>whnf);first|refine Yz ?_|exact hsame (λi h3 h4=>absurd h4 (by omega))|fail)
 ·repeat'((conv=>whnf);first|refine Yz ?_|fail)
  refine zab.to (zab.upP g (λk=>[(0,.ref ⟨0,0,0⟩ 0 l.length l.length),(3,I (k+1:Nat))]) (λ_=>[(⟨0,0,0⟩,.row true zaa 2 l.length (l.flatMap wndC)),(⟨1,2,0⟩,.row true zaa 2 0 [])]) (λk=>∀i,0<i->i<k+1->l.getD i (0,0)≠l.getD (i-1) (0,0)) (l.length-1) (λk hk hp ih=>?_) 0 (Nat.zero_le _) (λi h3 h4=>absurd h4 (by omega))) rfl rfl
  by_cases hlt:k<l.length-1
  ·by_cases heq:l.getD (k+1) (0,0)=l.getD k (0,0)
   ·have hd1:=yfb l (k+1) hp (by omega);have hn:¬(k+1=0\/l.getD (k+1) (0,0)≠l.getD (k+1-1) (0,0)):=by simpa using heq
    have hd2:ddW l (k+2)=l.take (k+1):=by
     show ddW l (k+1)++_=_;rw[if_neg hn,List.append_nil,hd1]
    have hd3:(ddW l (k+2)).length=k+1:=by rw[hd2];simp;omega
    have hr:z5g l (k+2)=l:=by unfold z5g;rw[hd3,hd2];simp
    repeat'((conv=>whnf);first|refine Yz ?_|refine za2.atW (k+1) (by omega) (by omega) ?_|refine za2.atW k (by omega) (by omega) ?_|refine Cmp.tt ⟨congrArg Prod.fst heq,congrArg Prod.snd heq⟩ ?_|refine zom.mk (by omega) ?_|fail)
    refine zab.to (zab.upP g (λj=>[(0,.ref ⟨0,0,0⟩ 0 l.length l.length),(3,I (ddW l (k+2+j)).length),(4,.ref ⟨0,0,0⟩ (k+1) (l.length-(k+1)) l.length),(5,I (j+1:Nat))]) (λj=>[(⟨0,0,0⟩,.row true zaa 2 l.length ((z5g l (k+2+j)).flatMap wndC)),(⟨1,2,0⟩,.row true zaa 2 0 [])]) (λj=>(ddW l (k+2+j)).length<=k+1+j) (l.length-(k+2)) (λj hj hpj ihj=>?_) 0 (Nat.zero_le _) (by rw[Nat.add_zero,hd3];omega)) ?_ ?_
    ·have hrl:=ygp l (k+2+j) (by omega);have hrf:=λ_:Unit=>zae wndC 2 zcy (z5g l (k+2+j))
     have g1:=yjq l (k+2+j) (k+2+j) (by omega);have g2:=yjq l (k+2+j) (k+1+j) (by omega)
     by_cases hjt:j<l.length-(k+2)
     ·by_cases hne:l.getD (k+2+j) (0,0)=l.getD (k+1+j) (0,0)
      ·have hn2:¬(k+2+j=0\/l.getD (k+2+j) (0,0)≠l.getD (k+2+j-1) (0,0)):=by
        rw[show k+2+j-1=k+1+j by omega];simp only[not_or,ne_eq,Decidable.not_not];exact⟨by omega,hne⟩
       have e1:=yo6 l _ hn2
       have e2:ddW l (k+2+j+1)=ddW l (k+2+j):=by
        show ddW l (k+2+j)++_=_;rw[if_neg hn2,List.append_nil]
       have e3:(z5g l (k+2+j)).getD (k+2+j) (0,0)=(z5g l (k+2+j)).getD (k+1+j) (0,0):=by rw[g1,g2];exact hne
       repeat'((conv=>whnf);first|refine Yz ?_|refine za2.atW (k+2+j) (by omega) (by omega) ?_|refine za2.atW (k+1+j) (by omega) (by omega) ?_|refine Cmp.tt ⟨congrArg Prod.fst e3,congrArg Prod.snd e3⟩ ?_|refine zab.to (ihj hjt (by rw[show k+2+(j+1)=k+2+j+1 by omega,e2];omega)) ?_ ?_|fail)
       ·rw[show k+2+(j+1)=k+2+j+1 by omega,e2];rfl
       rw[show k+2+(j+1)=k+2+j+1 by omega,e1]
      have hn2:(k+2+j=0\/l.getD (k+2+j) (0,0)≠l.getD (k+2+j-1) (0,0)):=by
       rw[show k+2+j-1=k+1+j by omega];exact .inr hne
      have e1:=ysl l _ hn2 (by omega)
      have e2:(ddW l (k+2+j+1)).length=(ddW l (k+2+j)).length+1:=by
       show(ddW l (k+2+j)++_).length=_;rw[if_pos hn2];simp
      have e3:=yx4 (z5g l (k+2+j)) (ddW l (k+2+j)).length (by omega) (l.getD (k+2+j) (0,0));have e4:(0+((ddW l (k+2+j)).length:Int).toNat)*2=(ddW l (k+2+j)).length*2:=by omega
      have e5:¬((z5g l (k+2+j)).getD (k+2+j) (0,0)).1=((z5g l (k+2+j)).getD (k+1+j) (0,0)).1\/¬((z5g l (k+2+j)).getD (k+2+j) (0,0)).2=((z5g l (k+2+j)).getD (k+1+j) (0,0)).2:=by
       rw[g1,g2]
       by_cases hf:(l.getD (k+2+j) (0,0)).1=(l.getD (k+1+j) (0,0)).1
       ·exact .inr λhs=>hne (Prod.ext hf hs)
       exact .inl hf
      repeat'((conv=>whnf);first|refine Yz ?_|refine za2.atW (k+2+j) (by omega) (by omega) ?_|refine za2.atW (k+1+j) (by omega) (by omega) ?_|refine Cmp.ff (λh=>e5.elim (λn=>n h.1) (λn=>n h.2)) ?_|refine zem.mk ⟨rfl,by rw[hrf ()];show _+2<=_;omega,rfl⟩ ?_|refine zab.to (ihj hjt (by rw[show k+2+(j+1)=k+2+j+1 by omega,e2];omega)) ?_ ?_|fail)
      ·rw[show k+2+(j+1)=k+2+j+1 by omega,e2];rfl
      rw[show k+2+(j+1)=k+2+j+1 by omega,e1,<-e3,g1,e4]
     have hjj:k+2+j=l.length:=by omega
     rw[hjj]at hrl hpj hrf;have hle:=yb7 l l.length;simp only[hjj]
     repeat'((conv=>whnf);first|refine Yz ?_|refine zom.mk (by omega) ?_|refine zto.mk ⟨_,if_pos (by refine⟨rfl,?_,rfl⟩;omega),?_⟩|fail)
     conv=>whnf
     refine hK (patch ((z5g l l.length).flatMap wndC) ((0+((ddW l l.length).length:Int).toNat)*2) (List.replicate (l.length-(ddW l l.length).length) [DI 0,DI 0]).flatten) ?_ ?_
     ·simp[patch,hrf (),hrl];omega
     have hdf:=zae wndC 2 zcy (ddW l l.length);have e0:(0+((ddW l l.length).length:Int).toNat)*2=((ddW l l.length).flatMap wndC).length:=by omega
     rw[e0,hdf,<-hdf];unfold patch z5g;rw[List.flatMap_append,List.take_left,List.append_assoc,List.take_left]
    ·simp;omega
    rw[Nat.add_zero,hr]
   have e5:¬(l.getD (k+1) (0,0)).1=(l.getD k (0,0)).1\/¬(l.getD (k+1) (0,0)).2=(l.getD k (0,0)).2:=by
    by_cases hf:(l.getD (k+1) (0,0)).1=(l.getD k (0,0)).1
    ·exact .inr λhs=>heq (Prod.ext hf hs)
    exact .inl hf
   repeat'((conv=>whnf);first|refine Yz ?_|refine za2.atW (k+1) (by omega) (by omega) ?_|refine za2.atW k (by omega) (by omega) ?_|refine Cmp.ff (λh=>e5.elim (λn=>n h.1) (λn=>n h.2)) ?_|refine zab.to (ih hlt ?_) ?_ rfl|fail)
   ·intro i h3 h4
    by_cases e:i=k+1
    ·subst e;exact heq
    exact hp i h3 (by omega)
   rfl
  ·repeat'((conv=>whnf);first|refine Yz ?_|exact hsame (λi h3 h4=>hp i h3 (by omega))|fail)
theorem yl9(l:List Wnd)(hl:l.length<=100000000):∃xs:List D,xs.length=l.length*2/\xs.take ((ybz l).length*2)=(ybz l).flatMap wndC/\Us E zax [.ref ⟨0,0,0⟩ 0 l.length l.length] (rwW l.length (l.flatMap wndC)) (.ref ⟨0,0,0⟩ 0 (ybz l).length l.length) (rwW l.length xs):=by
 obtain⟨v,m1,h1,xs,h2,h3,h4,h5⟩:=(yfp g l hl (K:=λv m1=>∃xs:List D,xs.length=l.length*2/\xs.take ((ybz l).length*2)=(ybz l).flatMap wndC/\v=.ref ⟨0,0,0⟩ 0 (ybz l).length l.length/\zvi m1 (rwW l.length xs)) λxs h1 h2=>⟨xs,h1,h2,rfl,rfl,trivial⟩).got;exact⟨xs,h2,h3,⟨v,m1,h1,h4,h5⟩⟩
end
def z13(ls:List Lmt)(es:List (Wnd×Int))(W:List Wnd):List Wnd:=W.filter λw=>decide ((ls.getD w.1.toNat default).mo<zdr es w)
theorem yok(ls:List Lmt)(es:List (Wnd×Int)){W:List Wnd}{n:Nat}(h:n<W.length):z13 ls es (W.take (n+1))=z13 ls es (W.take n)++if(ls.getD W[n].1.toNat default).mo<zdr es W[n]then [W[n]]else []:=by
 unfold z13;rw[List.take_add_one,List.getElem?_eq_getElem h,List.filter_append];congr 1;simp only[Option.toList_some,List.filter_cons,List.filter_nil,decide_eq_true_eq]
theorem ysa(ls:List Lmt)(es:List (Wnd×Int))(A B:List Wnd):z13 ls es (A++B)=z13 ls es A++z13 ls es B:=by
 unfold z13;rw[List.filter_append]
theorem ygg(ls:List Lmt)(es:List (Wnd×Int))(W:List Wnd):(z13 ls es W).length<=W.length:=List.length_filter_le _ _
theorem zq5(ls:List Lmt){M:List Mvt}{n:Nat}(h:n<M.length):zd2 ls (M.take (n+1))=zd2 ls (M.take n)++z2c ls M[n]:=by
 unfold zd2;rw[List.take_add_one,List.getElem?_eq_getElem h,List.flatMap_append];simp
def z4f(ls:List Lmt)(c:Wnd->Int)(M:List Mvt):List Wnd:=(zd2 ls M).filter λw=>decide ((ls.getD w.1.toNat default).mo<c w+((zd2 ls M).count w:Nat))
def yqu(ls:List Lmt)(c:Wnd->Int)(M:List Mvt):List Wnd:=ybz (yp1 (λa b=>decide (cfW a b<0)) (z4f ls c M))
theorem yjj(ls:List Lmt)(c:Wnd->Int)(M:List Mvt):yqu ls c M=[]↔z4f ls c M=[]:=by
 unfold yqu;rw[yrb];have:=(zup (λa b=>decide (cfW a b<0)) (z4f ls c M)).length_eq;rw[<-List.length_eq_zero_iff,<-List.length_eq_zero_iff,this]
theorem y0l(l:List Wnd):yyt (λa b=>decide (cfW a b<0)) l=true:=by
 unfold yyt;refine List.all_eq_true.2 λa _=>List.all_eq_true.2 λb _=>?_
 by_cases h:a=b
 ·simp[h]
 have hz:∀a b:Int,(ye5 a b<0↔a<b)/\(ye5 a b=0↔a=b):=λa b=>by
  unfold ye5;constructor<;>(repeat' split)<;>omega
 have h1:=hz a.1 b.1;have h2:=hz b.1 a.1;have h3:=hz a.2 b.2;have h4:=hz b.2 a.2;have h5:¬(a.1=b.1/\a.2=b.2):=λhh=>h (Prod.ext hh.1 hh.2)
 unfold cfW;simp only[Bool.or_eq_true,decide_eq_true_eq];left
 (repeat' split)<;>omega
theorem yls{f:Nat}{m:Mem}{o:Evl.Id}{t n:Nat}(l:List Wnd)(hm:Evl.look m o=some (.row true t 2 n (l.flatMap wndC)))(hn:l.length=n)(hb:n<=100000000):
  sortWX f [.ref o 0 n n,.fn f [] []] m=some (.tup [],upd m o (.row true t 2 n ((yp1 (λa b=>decide (cfW a b<0)) l).flatMap wndC))):=by
 unfold sortWX yj5;simp only[hm];rw[if_pos (by refine⟨?_,?_,?_,?_,?_⟩<;>first|trivial|rfl|omega)]
 by_cases h0:n=0
 ·rw[if_pos h0];obtain rfl:l=[]:=by rw[<-List.length_eq_zero_iff];omega
  rw[show upd m o (.row true t 2 n ((yp1 (λa b=>decide (cfW a b<0)) ([]:List Wnd)).flatMap wndC))=m from ya7 m o _ hm]
 rw[if_neg h0,ynb];simp only;rw[if_pos ⟨y0l l,hn⟩]
theorem zuu.add{E:Oracle}(g:Good E){ls:List Lmt}(hls:ls.length<=3)(hv:∀l∈ls,zgr l=0){x:Mvt}(hx:0<=x.mo/\x.mo<=143999999){t:Int}(ht:-1<=t/\t<=1){es:List (Wnd×Int)}(hes:∀w,-1000000000<=zdr es w/\zdr es w<=1000000000){ks:List Wnd}{b0 b1 b2:Evl.Id}{m:Mem}{K:V->Mem->Prop}
  (hne:b0≠b1/\b0≠b2/\b1≠b2)(h0:Evl.look m b0=some (.cells zbi [LLm ls,.mp b1,.mp b2]))(h1:Evl.look m b1=some (.map (zmb es)))(h2:Evl.look m b2=some (.map (zjy ls ks)))
  (hk:∀es' ks',(∀w,zdr es' w=zdr es w+t*((z2c ls x).count w:Nat))->ztm m b1 (.map (zmb es')) λm1=>ztm m1 b2 (.map (zjy ls ks')) λm2=>K (.tup []) m2):zuu E false (.fn zbr [] []) [.ptr b0 0 0,Mvv x,I t] m K:=
 UpdB.of (yyv g ls hls hv x hx t ht es hes ks) rfl rfl hne h0 h1 h2 (by rintro v es' ks'⟨rfl,_⟩;exact⟨λ_=>rfl,rfl⟩) (by rintro v es' ks'⟨rfl,h⟩;exact hk es' ks' h)
theorem zuu.around{E:Oracle}(g:Good E){ls:List Lmt}(hls:ls.length<=3)(hv:∀l∈ls,zgr l=0){x:Mvt}(hx:0<=x.mo/\x.mo<=143999999){es:List (Wnd×Int)}{ks:List Wnd}{b0 b1 b2:Evl.Id}{m:Mem}{K:V->Mem->Prop}
  (hne:b0≠b1/\b0≠b2/\b1≠b2)(h0:Evl.look m b0=some (.cells zbi [LLm ls,.mp b1,.mp b2]))(h1:Evl.look m b1=some (.map (zmb es)))(h2:Evl.look m b2=some (.map (zjy ls ks)))
  (hk:∀ks',ztm m b1 (.map (zmb es)) λm1=>ztm m1 b2 (.map (zjy ls ks')) λm2=>K (LWn (z2c ls x)) m2):zuu E true (.fn zch [] []) [.ptr b0 0 0,Mvv x] m K:=
 UpdB.of (ykb g ls hls hv x hx es ks) rfl rfl hne h0 h1 h2 (by rintro v es' ks'⟨rfl,_⟩;exact⟨λ_=>rfl,rfl⟩) (by rintro v es' ks'⟨rfl,rfl⟩;exact hk ks')
section
variable{E:Oracle}(g:Good E)
include g
theorem ymb(ls:List Lmt)(hls:ls.length<=3)(hv:∀l∈ls,zgr l=0)(M:List Mvt)(hM:∀x∈M,0<=x.mo/\x.mo<=143999999)(hMl:M.length<=1000)(es:List (Wnd×Int))(hes:∀w,-100000000<=zdr es w/\zdr es w<=100000000)(ks:List Wnd):
  UB E true zb3 ls [LMv M] es ks λv es' _=>v=LWn (yqu ls (zdr es) M)/\∀w,zdr es' w=zdr es w:=by
 refine⟨?_⟩;show In E 1 _ _ _ λv m1=>zxy ⟨0,1⟩ 0 true v m1 λv' m'=>∃es' ks',(v'=LWn (yqu ls (zdr es) M)/\∀w,zdr es' w=zdr es w)/\zvi m' (mBd ls (zmb es') (zjy ls ks'))
 have hkb:=λks=>zkf ls ks
 have hct:=λes=>zlj es
 have hcn:∀n w,((zd2 ls (M.take n)).count w:Nat)<=8640000:=λn w=>by
  have h1:=zmp ls hv hls (M.take n);have h2:(M.take n).length<=1000:=by rw[List.length_take];omega
  have h3:=List.count_le_length (a:=w) (l:=zd2 ls (M.take n));omega
 refine In.enter (f:=zb3) g.lim rfl rfl ?_
 repeat'((conv=>whnf);first|refine Yz ?_|fail)
 refine zab.to (zab.by (σ:=Nat×List (Wnd×Int)×List Wnd) g (λu=>u.1<=M.length/\∀w,zdr u.2.1 w=zdr es w+((zd2 ls (M.take u.1)).count w:Nat))
  (λu=>[(0,.ptr ⟨0,0,0⟩ 0 0),(1,LMv M),(14,LMv M),(15,I M.length),(16,I u.1)])
  (λu=>mBd ls (zmb u.2.1) (zjy ls u.2.2)++[(⟨1,4,0⟩,.row true zaa 2 0 [])])
  (λu=>M.length-u.1) ?_ (0,es,ks) ⟨Nat.zero_le _,λw=>by simp[zd2]⟩) rfl rfl
 rintro⟨n,es1,ks1⟩⟨h1,hc⟩ih;dsimp only at h1 hc
 by_cases hlt:n<M.length
 ·have hx:=hM _ (List.getElem_mem hlt)
  have hes1:∀w,-1000000000<=zdr es1 w/\zdr es1 w<=1000000000:=λw=>by
   have:=hcn n w;have:=hes w;have:=hc w;omega
  have ih:=λes' ks'(h:∀w,zdr es' w=zdr es1 w+1*((z2c ls M[n]).count w:Nat))=>ih (n+1,es',ks') ⟨by dsimp only;omega,λw=>by
   dsimp only;rw[h,hc,zq5 ls hlt,List.count_append]
   omega⟩ (by dsimp only;omega)
  dsimp only at ih
  repeat'((conv=>whnf);first|refine Yz ?_|refine za2.rec Mvt.cells_length n rfl hlt ?_|refine zuu.add g hls hv hx (by omega) hes1 (by decide) rfl rfl rfl (λes' ks' h=>?_)|(simp only[mBd,Evl.idsAll,Evl.idsO,hct,hkb,List.nil_append])|refine zab.to (ih _ _ h) rfl rfl|fail)
 obtain rfl:n=M.length:=by omega
 clear ih;rw[List.take_length]at hc
 repeat'((conv=>whnf);first|refine Yz ?_|(simp only[mBd])|fail)
 have hle1:=zmp ls hv hls M
 refine zab.to (zab.by (σ:=Nat×List Wnd) g (λu=>u.1<=M.length)
  (λu=>[(0,.ptr ⟨0,0,0⟩ 0 0),(1,LMv M),(7,.ref ⟨1,7,0⟩ 0 (z13 ls es1 (zd2 ls (M.take u.1))).length (z13 ls es1 (zd2 ls (M.take u.1))).length),(24,LMv M),(25,I M.length),(26,I u.1)])
  (λu=>mBd ls (zmb es1) (zjy ls u.2)++[(⟨1,4,0⟩,.row true zaa 2 0 []),(⟨1,7,0⟩,.row true zaa 2 (z13 ls es1 (zd2 ls (M.take u.1))).length ((z13 ls es1 (zd2 ls (M.take u.1))).flatMap wndC))])
  (λu=>M.length-u.1) ?_ (0,ks1) (Nat.zero_le _)) rfl rfl
 rintro⟨n,ks2⟩h2 ih2;dsimp only at h2
 by_cases hlt:n<M.length
 ·have hx:=hM _ (List.getElem_mem hlt);have ih2:=λks'=>ih2 (n+1,ks') (by dsimp only;omega) (by dsimp only;omega)
  dsimp only at ih2;have hs:=zq5 ls hlt;rw[hs,ysa]at ih2
  have hal:(z13 ls es1 (zd2 ls (M.take n))).length<=8640000:=by
   have h3:=zmp ls hv hls (M.take n);have h4:=ygg ls es1 (zd2 ls (M.take n));have h5:(M.take n).length<=1000:=by rw[List.length_take];omega
   omega
  have hWl:=zxq ls hv M[n] ls.length (Nat.le_refl _);change(z2c ls M[n]).length<=_ at hWl;have hWi:=λw(hw:w∈z2c ls M[n])=>yhr hw
  generalize z13 ls es1 (zd2 ls (M.take n))=A at*;generalize hW:z2c ls M[n]=W at*
  repeat'((conv=>whnf);first|refine Yz ?_|refine za2.rec Mvt.cells_length n rfl hlt ?_|refine zuu.around g hls hv hx (by decide) rfl rfl rfl (λks'=>?_)|(simp only[])|fail)
  rw[hW];generalize M[n]=x at*
  refine zab.to (zab.up g (λk=>[(0,.ptr ⟨0,0,0⟩ 0 0),(1,LMv M),(7,.ref ⟨1,7,0⟩ 0 (A++z13 ls es1 (W.take k)).length (A++z13 ls es1 (W.take k)).length),(24,LMv M),(25,I M.length),(26,I n),(32,LWn W),(33,I W.length),(34,I k)])
   (λk=>mBd ls (zmb es1) (zjy ls ks')++[(⟨1,4,0⟩,.row true zaa 2 0 []),(⟨1,7,0⟩,.row true zaa 2 (A++z13 ls es1 (W.take k)).length ((A++z13 ls es1 (W.take k)).flatMap wndC)),(⟨1,9,0⟩,.cells zac (mvC x))])
   W.length (λk hk ihk=>?_) 0 (Nat.zero_le _)) (by rw[List.take_zero,show z13 ls es1 []=[]from rfl,List.append_nil];rfl) (by rw[List.take_zero,show z13 ls es1 []=[]from rfl,List.append_nil];rfl)
  by_cases hlk:k<W.length
  ·have ihk:=ihk hlk;have hi:=hWi W[k] (List.getElem_mem hlk);have e:ls.getD W[k].1.toNat default=ls[W[k].1.toNat]'hi.2:=by simp[List.getD,hi.2]
   rw[yok ls es1 hlk,e,<-List.append_assoc]at ihk
   have hUl:(A++z13 ls es1 (W.take k)).length<=9000000:=by
    have h5:=ygg ls es1 (W.take k);rw[List.length_take]at h5;rw[List.length_append];omega
   generalize A++z13 ls es1 (W.take k)=U at*;have hfl:=λ_:Unit=>zae wndC 2 zcy U
   have hf:=z4a W[k] es1;have hn:=z4g W[k] es1;generalize zdr es1 W[k]=c at*
   by_cases hc2:(ls[W[k].1.toNat]'hi.2).mo<c
   ·rw[if_pos hc2]at ihk
    by_cases hin:W[k]∈es1.map (·.1)
    ·rw[if_pos hin]at hf
     repeat'((conv=>whnf);first|refine Yz ?_|refine za2.rec zcy k rfl hlk ?_|refine zxi.mk ⟨_,hf,?_⟩|refine zgp.rec Lmt.cells_length W[k].1.toNat hi.1 hi.2 rfl ?_|refine zem.mk (by simp[hfl ()];omega) ?_|(simp only[mBd,List.cons_append,Evl.idsAll,Evl.idsO,hct,hkb,List.nil_append])|refine zab.to ihk ?_ ?_|fail)
     ·simp only[List.length_append,List.length_singleton];rfl
     simp only[List.length_append,List.length_singleton,List.flatMap_append];rfl
    rw[if_neg hin]at hf;obtain rfl:=hn hin
    repeat'((conv=>whnf);first|refine Yz ?_|refine za2.rec zcy k rfl hlk ?_|refine zxi.mk ⟨_,hf,?_⟩|refine zgp.rec Lmt.cells_length W[k].1.toNat hi.1 hi.2 rfl ?_|refine zem.mk (by simp[hfl ()];omega) ?_|(simp only[mBd,List.cons_append,Evl.idsAll,Evl.idsO,hct,hkb,List.nil_append])|refine zab.to ihk ?_ ?_|fail)
    ·simp only[List.length_append,List.length_singleton];rfl
    simp only[List.length_append,List.length_singleton,List.flatMap_append];rfl
   rw[if_neg hc2,List.append_nil]at ihk
   by_cases hin:W[k]∈es1.map (·.1)
   ·rw[if_pos hin]at hf
    repeat'((conv=>whnf);first|refine Yz ?_|refine za2.rec zcy k rfl hlk ?_|refine zxi.mk ⟨_,hf,?_⟩|refine zgp.rec Lmt.cells_length W[k].1.toNat hi.1 hi.2 rfl ?_|(simp only[Evl.idsAll,Evl.idsO,hct,hkb,List.nil_append])|refine zab.to ihk rfl rfl|fail)
   rw[if_neg hin]at hf;obtain rfl:=hn hin
   repeat'((conv=>whnf);first|refine Yz ?_|refine za2.rec zcy k rfl hlk ?_|refine zxi.mk ⟨_,hf,?_⟩|refine zgp.rec Lmt.cells_length W[k].1.toNat hi.1 hi.2 rfl ?_|(simp only[Evl.idsAll,Evl.idsO,hct,hkb,List.nil_append])|refine zab.to ihk rfl rfl|fail)
  obtain rfl:k=W.length:=by omega
  clear ihk;rw[List.take_length];have ih2:=ih2 ks';generalize A++z13 ls es1 W=U at*
  repeat'((conv=>whnf);first|refine Yz ?_|(simp only[mBd,List.cons_append,Evl.idsAll,Evl.idsO,hct,hkb,List.nil_append])|refine zab.to ih2 rfl rfl|fail)
 obtain rfl:n=M.length:=by omega
 clear ih2;rw[List.take_length]
 have hF:z13 ls es1 (zd2 ls M)=z4f ls (zdr es) M:=by
  unfold z13 z4f;congr 1
  funext w
  rw[hc]
 have hFl:(z4f ls (zdr es) M).length<=8640000:=by
  rw[<-hF];have h4:=ygg ls es1 (zd2 ls M);omega
 rw[hF];unfold yqu;generalize hFe:z4f ls (zdr es) M=F at*
 repeat'((conv=>whnf);first|refine Yz ?_|(simp only[])|fail)
 refine zab.to (zab.by (σ:=Nat×List (Wnd×Int)×List Wnd) g (λu=>u.1<=M.length/\∀w,zdr u.2.1 w=zdr es1 w-((zd2 ls (M.take u.1)).count w:Nat))
  (λu=>[(0,.ptr ⟨0,0,0⟩ 0 0),(7,.ref ⟨1,7,0⟩ 0 F.length F.length),(60,LMv M),(61,I M.length),(62,I u.1)])
  (λu=>mBd ls (zmb u.2.1) (zjy ls u.2.2)++[(⟨1,4,0⟩,.row true zaa 2 0 []),(⟨1,7,0⟩,.row true zaa 2 F.length (F.flatMap wndC))])
  (λu=>M.length-u.1) ?_ (0,es1,ks2) ⟨Nat.zero_le _,λw=>by simp[zd2]⟩) rfl rfl
 rintro⟨n,es3,ks3⟩⟨h3,hc3⟩ih;dsimp only at h3 hc3
 by_cases hlt:n<M.length
 ·have hx:=hM _ (List.getElem_mem hlt)
  have hes1:∀w,-1000000000<=zdr es3 w/\zdr es3 w<=1000000000:=λw=>by
   have:=hcn n w;have h5:=hcn M.length w;rw[List.take_length]at h5;have:=hes w;have:=hc w;have:=hc3 w;omega
  have ih:=λes' ks'(h:∀w,zdr es' w=zdr es3 w+ -1*((z2c ls M[n]).count w:Nat))=>ih (n+1,es',ks') ⟨by dsimp only;omega,λw=>by
   dsimp only;rw[h,hc3,zq5 ls hlt,List.count_append]
   omega⟩ (by dsimp only;omega)
  dsimp only at ih
  repeat'((conv=>whnf);first|refine Yz ?_|refine za2.rec Mvt.cells_length n rfl hlt ?_|refine zuu.add g hls hv hx (by omega) hes1 (by decide) rfl rfl rfl (λes' ks' h=>?_)|(simp only[Evl.idsAll,Evl.idsO,hct,hkb,List.nil_append])|refine zab.to (ih _ _ h) rfl rfl|fail)
 obtain rfl:n=M.length:=by omega
 clear ih;rw[List.take_length]at hc3;have hx:=yls (f:=n_allocate_board_refusing_1) (o:=⟨1,7,0⟩) (t:=zaa) (n:=F.length) (m:=mBd ls (zmb es3) (zjy ls ks3)++[(⟨1,4,0⟩,.row true zaa 2 0 []),(⟨1,7,0⟩,.row true zaa 2 F.length (F.flatMap wndC))]) F rfl rfl (by omega);have hSl:=(zup (λa b=>decide (cfW a b<0)) F).length_eq;generalize yp1 (λa b=>decide (cfW a b<0)) F=T at*;obtain⟨xs,hx1,hx2,hq⟩:=yl9 g T (by omega);rw[hSl]at hx1 hq
 repeat'((conv=>whnf);first|refine Yz ?_|(simp only[mBd,List.cons_append,Evl.idsAll,Evl.idsO,hct,hkb,List.nil_append])|refine In.extern g.lim (x:=sortWX n_allocate_board_refusing_1) rfl hx ?_|refine zuu.of (is:=[⟨1,7,0⟩]) rfl rfl rfl rfl hq rfl rfl rfl ?_|fail)
 have hcl:(ybz T).length<=T.length:=yb7 T T.length
 have hval:(if True/\(ybz T).length=F.length then xs else win xs (0*2) ((ybz T).length*2))=(ybz T).flatMap wndC:=by
  split
  ·rename_i h;rw[<-hx2,List.take_of_length_le (by rw[hx1,h.2];exact Nat.le_refl _)]
  rw[<-hx2];simp[win]
 refine zem.mk ⟨trivial,by omega⟩ ?_;rw[hval];exact⟨es3,ks3,⟨rfl,λw=>by rw[hc3,hc];omega⟩,rfl,rfl,rfl,trivial⟩
end
def ys6(rs:List Alr)(i:Nat)(m:Int):List Alr:=rs.set i {rs.getD i ⟨[],0,false⟩with mi:=m,gr:=true}
theorem z4c{α:Type}(cell:α->List D)(w:Nat)(hw:∀a,(cell a).length=w)(l:List α)(k j:Nat)(hk:k<l.length)(hj:j<w)(d:D)(x:α)(hx:cell x=patch (cell l[k]) j [d]):patch (l.flatMap cell) (k*w+j) [d]=(l.set k x).flatMap cell:=by
 have h1:l=l.take k++l[k]::l.drop (k+1):=by rw[<-List.drop_eq_getElem_cons hk,List.take_append_drop]
 have h2:l.set k x=l.take k++x::l.drop (k+1):=by
  rw[List.set_eq_take_append_cons_drop,if_pos hk]
 rw[h2,List.flatMap_append,List.flatMap_cons,hx]
 have h3:l.flatMap cell=(l.take k).flatMap cell++(cell l[k]++(l.drop (k+1)).flatMap cell):=by
  rw[<-List.flatMap_cons,<-List.flatMap_append];exact congrArg (List.flatMap cell) h1
 rw[h3]
 have h4:((l.take k).flatMap cell).length=k*w:=by
  rw[zae cell w hw,List.length_take,Nat.min_eq_left (by omega)]
 have h5:=hw l[k];generalize(l.take k).flatMap cell=A at*;generalize(l.drop (k+1)).flatMap cell=C at*;generalize cell l[k]=B at*;unfold patch;rw[<-h4,List.take_append,List.take_of_length_le (by omega),Nat.add_sub_cancel_left,List.take_append_of_le_length (by omega)];rw[List.drop_append,List.drop_of_length_le (by simp;omega),List.length_singleton,Nat.add_assoc,Nat.add_sub_cancel_left,List.drop_append_of_le_length (by omega)];simp
theorem yx3(rs:List Alr)(i:Nat)(hi:i<rs.length)(m:Int):patch (patch (rs.flatMap Alr.cells) (i*3+1) [DI m]) (i*3+2) [.bool true]=(ys6 rs i m).flatMap Alr.cells:=by
 have e:rs.getD i ⟨[],0,false⟩=rs[i]:=by simp[List.getD,hi]
 rw[z4c Alr.cells 3 Alr.cells_length rs i 1 hi (by decide) (DI m) {rs[i]with mi:=m} rfl];have hi2:i<(rs.set i {rs[i]with mi:=m}).length:=by rw[List.length_set];exact hi
 rw[z4c Alr.cells 3 Alr.cells_length _ i 2 hi2 (by decide) (.bool true) {rs[i]with mi:=m,gr:=true} (by rw[List.getElem_set_self];rfl),List.set_set];unfold ys6;rw[e]
abbrev rwR(n:Nat)(rs:List Alr):Mem:=[(⟨0,0,0⟩,.row true zah 3 n (rs.flatMap Alr.cells))]
section
variable{E:Oracle}(g:Good E)
include g
theorem yyx(rs:List Alr)(i:Nat)(hi:i<rs.length)(m:Int):Us E zfm [Unt i,.ref ⟨0,0,0⟩ 0 rs.length rs.length,.d (.agg [DI m,DI (-1)])] (rwR rs.length rs) (.tup []) (rwR rs.length (ys6 rs i m)):=by
 refine⟨?_⟩;refine In.enter (f:=zfm) g.lim rfl rfl ?_;have hfl:=zae Alr.cells 3 Alr.cells_length rs;have hp:=yx3 rs i hi m;have e1:(0+((i:Nat):Int).toNat)*3=i*3:=by rw[Nat.zero_add,Int.toNat_natCast]
 rw[<-e1]at hp
 repeat'((conv=>whnf);first|refine Yz ?_|refine zd5.of (In.enter (f:=zdt) g.lim rfl rfl ?_)|(refine⟨(.fn zcu [] [.ptr ⟨1,9,0⟩ 0 0],[(⟨0,0,0⟩,.row true zah 3 rs.length (rs.flatMap Alr.cells)),(⟨1,3,0⟩,.cells za8 [I i,I (-1)]),(⟨1,4,0⟩,.cells zb6 [.ref ⟨0,0,0⟩ 0 rs.length rs.length]),(⟨1,5,0⟩,.cells zaj [I m,I (-1)]),(⟨1,9,0⟩,.cells za8 [I i,I (-1)])]),rfl,?_⟩)|refine In.enter (f:=zcu) g.lim rfl rfl ?_|refine Rnd.enter g.lim ?_|refine zab.step g.lim ?_|refine zem.mk ⟨rfl,by simp[patch,hfl];omega,rfl⟩ ?_|fail)
 exact⟨rfl,by rw[<-hp];rfl,trivial⟩
theorem yyy(ls:List Lmt)(hls:ls.length<=3)(hv:∀l∈ls,zgr l=0)(l:List Wsh)(i:Nat)(hi:i<l.length)(m:Int)(hr:zt3 l[i].r=0)(hm:0<=m/\m<=1439)(M:List Mvt)(hMe:M=yf2 {l[i].r with mi:=m})(hM:∀x∈M,0<=x.mo/\x.mo<=143999999)(hMl:M.length<=1000)
  (es:List (Wnd×Int))(hes:∀w,-100000000<=zdr es w/\zdr es w<=100000000)(ks:List Wnd):
  UB E false zdn ls [LWi l,Unt i,.d (.agg [DI m,DI (-1)]),I 1] es ks λv es' _=>v=.tup []/\∀w,zdr es' w=zdr es w+((zd2 ls M).count w:Nat):=by
 refine⟨?_⟩;show In E 1 _ _ _ λv m1=>∃es' ks',(v=.tup []/\∀w,zdr es' w=zdr es w+((zd2 ls M).count w:Nat))/\zvi m1 (mBd ls (zmb es') (zjy ls ks'))
 have hkb:=λks=>zkf ls ks
 have hct:=λes=>zlj es
 have hcn:∀n w,((zd2 ls (M.take n)).count w:Nat)<=8640000:=λn w=>by
  have h1:=zmp ls hv hls (M.take n);have h2:(M.take n).length<=1000:=by rw[List.length_take];omega
  have h3:=List.count_le_length (a:=w) (l:=zd2 ls (M.take n));omega
 refine In.enter (f:=zdn) g.lim rfl rfl ?_;have hmv:=zum g l i hi m hr hm;rw[<-hMe]at hmv
 repeat'((conv=>whnf);first|refine Yz ?_|(apply zaf.of;assumption)|fail)
 refine zab.to (zab.by (σ:=Nat×List (Wnd×Int)×List Wnd) g (λu=>u.1<=M.length/\∀w,zdr u.2.1 w=zdr es w+((zd2 ls (M.take u.1)).count w:Nat))
  (λu=>[(0,.ptr ⟨0,0,0⟩ 0 0),(4,I 1),(15,LMv M),(16,I M.length),(17,I u.1)])
  (λu=>mBd ls (zmb u.2.1) (zjy ls u.2.2)++[(⟨1,7,0⟩,.cells za8 [I i,I (-1)]),(⟨1,8,0⟩,.cells zaj [I m,I (-1)])])
  (λu=>M.length-u.1) ?_ (0,es,ks) ⟨Nat.zero_le _,λw=>by simp[zd2]⟩) rfl rfl
 rintro⟨n,es1,ks1⟩⟨h1,hc⟩ih;dsimp only at h1 hc
 by_cases hlt:n<M.length
 ·have hx:=hM _ (List.getElem_mem hlt)
  have hes1:∀w,-1000000000<=zdr es1 w/\zdr es1 w<=1000000000:=λw=>by
   have:=hcn n w;have:=hes w;have:=hc w;omega
  have ih:=λes' ks'(h:∀w,zdr es' w=zdr es1 w+1*((z2c ls M[n]).count w:Nat))=>ih (n+1,es',ks') ⟨by dsimp only;omega,λw=>by
   dsimp only;rw[h,hc,zq5 ls hlt,List.count_append]
   omega⟩ (by dsimp only;omega)
  dsimp only at ih
  repeat'((conv=>whnf);first|refine Yz ?_|refine za2.rec Mvt.cells_length n rfl hlt ?_|refine zuu.add g hls hv hx (by omega) hes1 (by decide) rfl rfl rfl (λes' ks' h=>?_)|(simp only[mBd,Evl.idsAll,Evl.idsO,hct,hkb,List.nil_append])|refine zab.to (ih _ _ h) rfl rfl|fail)
 obtain rfl:n=M.length:=by omega
 clear ih;rw[List.take_length]at hc
 repeat'((conv=>whnf);first|refine Yz ?_|(simp only[mBd,List.cons_append,List.nil_append])|(exact⟨es1,ks1,⟨trivial,hc⟩,rfl,rfl,rfl,trivial⟩)|fail)
end
theorem z7d:∀{ls:List Lmt}{seen:List (List UInt8)},zv4 seen ls=0->∀l∈ls,zgr l=0
 |[],_,_,l,h=>absurd h List.not_mem_nil
 |x::r,seen,h,l,hm=>by
  unfold zv4 at h
  split at h
  ·rename_i h0
   rcases List.mem_cons.1 hm with rfl|hm
   ·unfold z6k at h0;rw[zb2]at h0;exact h0 _ (List.mem_cons_self ..)
   exact z7d h l hm
  rename_i h0;exact absurd h h0
theorem zsi{ls:List Lmt}(h:zj8 ls=0):∀l∈ls,zgr l=0:=by
 unfold zj8 at h
 split at h
 ·cases h
 exact z7d h
end Go.Proofs.YtkflcbhclegghaaGreatDoor.Co
