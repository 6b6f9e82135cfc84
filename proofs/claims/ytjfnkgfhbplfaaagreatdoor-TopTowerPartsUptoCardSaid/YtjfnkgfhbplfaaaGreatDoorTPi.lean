/-
  TopTowerParts returns true, for every argument: the law, and the last part of what it leans on.
-/
import Derived.Laws.RangeAny
import Derived.Test.YtjfnkgfhbplfaaaGreatDoorRead
import Derived.Test.YtjfnkgfhbplfaaaGreatDoorSpBase
import Derived.Test.YtjfnkgfhbplfaaaGreatDoorTPh
namespace Go.Proofs.YtjfnkgfhbplfaaaGreatDoor.Co
open Go Go.Evl
set_option maxHeartbeats 32000000
set_option maxRecDepth 100000
abbrev tpM (ls:List Lmt) (q:Rqt):Mem:=[(⟨0,5,0⟩,.cells zaj (rqC q)),(⟨0,47,0⟩,.row true zab 11 ls.length (ls.flatMap Lmt.cells))]
theorem yf8 {α:Type} {cs ds:List α} {off:Nat} (hw:(cs.drop off).take ds.length=ds):patch cs off ds=cs:=by
 unfold patch
 have h1:cs.drop off=ds++(cs.drop off).drop ds.length:=by
  rw [<-hw,List.length_take]
  conv=>lhs;rw [<-List.take_append_drop ds.length (cs.drop off)]
  rw [hw]
  congr 1
  have:=congrArg List.length hw
  rw [List.length_take] at this
  rw [this]
 rw [<-List.drop_drop,List.append_assoc,<-h1,List.take_append_drop]
theorem yd4 (ls:List Lmt) (k:Nat) (h:k<ls.length):(0+(k:Int).toNat)*11+7+3<=(ls.flatMap Lmt.cells).length/\patch (ls.flatMap Lmt.cells) ((0+(k:Int).toNat)*11+7) [DI ls[k].pf,DI ls[k].pt,DI ls[k].pd]=ls.flatMap Lmt.cells:=by
 have hp:zcz (ls.flatMap Lmt.cells) ((k:Int).toNat*11+7) 3 fun x=>x=[DI ls[k].pf,DI ls[k].pt,DI ls[k].pd]:=zcz.part Lmt.cells_length k rfl h (by decide) rfl rfl
 rw [Nat.zero_add]
 exact⟨hp.le,yf8 hp.go⟩
theorem yaq {α:Type} (f:α->List D) {l:List α} {k:Nat} (h:k<l.length):(l.take (k+1)).flatMap f=(l.take k).flatMap f++f l[k]:=by
 rw [List.take_add_one,List.getElem?_eq_getElem h,List.flatMap_append]
 simp
def tpS (q:Rqt) (n:Nat) (ps:List (Int×Int×Int)) (r:Nat):List Mvt:=(ps.take (r-n)).flatMap fun p=>zmh (q.per p)
def tpB (ls:List Lmt) (m:List Mvt) (q:Rqt) (n:Nat) (ps:List (Int×Int×Int)) (r:Nat):Bool:=(ps.take (r-n)).all fun p=>zpe ls m (q.per p)
abbrev tpR (ls:List Lmt) (q:Rqt) (X:Mem) (J S:List Mvt):Mem:=[(⟨0,5,0⟩,.cells zaj (rqC q)),(⟨0,47,0⟩,.row false zab 11 ls.length (ls.flatMap Lmt.cells))]++X++[(⟨0,35,0⟩,.row false zaa 7 J.length (J.flatMap Mvt.cells)),(⟨0,36,0⟩,.row false zaa 7 S.length (S.flatMap Mvt.cells))]
abbrev tpP (l:Lmt) (day:Int):V:= .d (.agg [DI l.pf,DI (day-1),DI l.pd,DI day,DI l.pt,DI l.pd])
abbrev tpN (ls:List Lmt) (q:Rqt) (l:Lmt) (day:Int) (p:Int×Int×Int) (n:Nat) (o:List D):Mem:=tpM ls q++[(⟨0,11,0⟩,.cells zab (lmC (l.per p))),(⟨0,12,0⟩,.cells zd4 [I l.pf,I (day-1),I l.pd,I day,I l.pt,I l.pd]),(⟨0,16,0⟩,.row false zda 3 n o),(⟨0,18,0⟩,.cells zag [I p.1,I p.2.1,I p.2.2])]
section
variable {E : Oracle} (g : Good E)
include g
theorem z39 (ls:List Lmt) (m:List Mvt) (q:Rqt) (hl:ls.length<=1048576) (td:Fc E ziw [] (B true)):Fc E zjd [LLm ls,LMv m,Rqv q] (B true):=by
 have t1:=z97 g m
 have t2:=z02 g q
 have t3:=ynv g q
 refine g.fn rfl rfl ?_
 by_cases hall:twL ls=true/\twM m=true/\z8b q=true/\zkx q=0/\q.to-q.fr<8
 ·obtain⟨a1,a2,a3,a4,a5⟩:=hall
  rw [a2] at t1
  rw [a3] at t2
  rw [a4] at t3
  have hp:=zay.1 (show ze5 q.fr q.to q.da=0 by
   unfold zkx at a4
   rw [zbn] at a4
   simp only [List.mem_cons,List.not_mem_nil,or_false,forall_eq_or_imp,forall_eq] at a4
   exact a4.2.2.2.1)
  repeat' ((conv=>whnf);first
  | refine Yz ?_
   | (apply zae.of;assumption)
   | (refine zgx.tower g ls hl rfl ?_;rw [a1])
   | fail)
  clear t1 t2 t3
  have hday:q.fr<q.fr+1+(q.to-q.fr)/2:=by omega
  have hday2:q.fr<q.to->q.fr+1+(q.to-q.fr)/2<=q.to:=by omega
  generalize q.fr+1+(q.to-q.fr)/2=day at *
  unfold twL at a1
  unfold twM at a2
  simp only [Bool.and_eq_true,decide_eq_true_eq] at a1 a2
  obtain⟨b1,⟨b2,b3⟩,b4⟩:=a1
  obtain⟨b5,_,b6⟩:=a2
  have hv:=ybb b4
  refine zad.to (zad.up g (fun k=>[(0,LLm ls),(1,LMv m),(5,.ptr ⟨0,5,0⟩ 0 0),(7,.ref ⟨0,47,0⟩ 0 ls.length ls.length),(9,I day),(91,.ref ⟨0,47,0⟩ 0 ls.length ls.length),(92,I ls.length),(93,I k)])
   (fun _=>tpM ls q) ls.length (fun k hk ih=> ?_) 0 (Nat.zero_le _)) rfl rfl
  by_cases hlt:k<ls.length
  ·have ih:=ih hlt
   have hx:=hv ls[k] (List.getElem_mem hlt)
   have hxp:=(zfi.1 hx).2.2.2.2.2.2.2.2.1
   have sp:=yeu g ls[k].pf ls[k].pt ls[k].pd day
   rw [if_neg (fun h=>h hxp)] at sp
   have hle:=yhx b2 b3 (List.getElem_mem hlt) hx m
   have ex:=z74 g [ls[k]] m (zy7 hx) (by simpa using hx) b6 (by omega)
   have ex:Fc E zct [.d (.list 1 ls[k].cells),LMv m] (.tup [LWd (zvi [ls[k]] m),I 0]):=ex
   by_cases hsp:day<=ls[k].pf\/ls[k].pt<day
   ·rw [if_pos hsp] at sp
    repeat' ((conv=>whnf);first
    | refine Yz ?_
     | (apply zae.of;assumption)
     | (refine zcz.rec0 Lmt.cells_length k rfl hlt ?_)
     | (refine zad.to ih rfl rfl)
     | fail)
   ·rw [if_neg hsp] at sp
    repeat' ((conv=>whnf);first
    | refine Yz ?_
     | (apply zae.of;assumption)
     | (refine zcz.rec0 Lmt.cells_length k rfl hlt ?_)
     | fail)
    have hnn:ls[k].pf<day/\day<=ls[k].pt:=by omega
    have hxz:=zay.1 hxp
    have v1:=z8y hx (p:=(ls[k].pf,day-1,ls[k].pd)) (zay.2 (by simp only;omega))
    have v2:=z8y hx (p:=(day,ls[k].pt,ls[k].pd)) (zay.2 (by simp only;omega))
    have hpa:=yhy ls[k] m day hnn
    have hpl:=congrArg List.length hpa
    rw [List.length_append] at hpl
    have e1:=z74 g [ls[k].per (ls[k].pf,day-1,ls[k].pd)] m (zy7 v1) (by simpa using v1) b6 (by omega)
    have e2:=z74 g [ls[k].per (day,ls[k].pt,ls[k].pd)] m (zy7 v2) (by simpa using v2) b6 (by omega)
    have e1:Fc E zct [.d (.list 1 [.str ls[k].nm,.str ls[k].ki,.str ls[k].te,DI ls[k].le,DI ls[k].st,DI ls[k].fr,DI ls[k].to,DI ls[k].pf,DI (day-1),DI ls[k].pd,DI ls[k].mo]),LMv m] (.tup [LWd (zvi [ls[k].per (ls[k].pf,day-1,ls[k].pd)] m),I 0]):=e1
    have e2:Fc E zct [.d (.list 1 [.str ls[k].nm,.str ls[k].ki,.str ls[k].te,DI ls[k].le,DI ls[k].st,DI ls[k].fr,DI ls[k].to,DI day,DI ls[k].pt,DI ls[k].pd,DI ls[k].mo]),LMv m] (.tup [LWd (zvi [ls[k].per (day,ls[k].pt,ls[k].pd)] m),I 0]):=e2
    generalize zvi [ls[k].per (ls[k].pf,day-1,ls[k].pd)] m=W1 at *
    generalize zvi [ls[k].per (day,ls[k].pt,ls[k].pd)] m=W2 at *
    rw [hpa]
    clear sp ex hpa v1 v2
    refine zad.step g.lim ?_
    repeat' ((conv=>whnf);first
    | refine Yz ?_
     | (apply zae.of;assumption)
     | (refine zcz.now (Nat.le_of_ble_eq_true rfl) rfl ?_)
     | fail)
    refine zad.to (zad.up g (fun j=>[(0,LLm ls),(1,LMv m),(5,.ptr ⟨0,5,0⟩ 0 0),(7,.ref ⟨0,47,0⟩ 0 ls.length ls.length),(9,I day),(10,I k),(11,.ptr ⟨0,11,0⟩ 0 0),(14,LWd (W1++W2)),(16,.ref ⟨0,16,0⟩ 0 j j),(91,.ref ⟨0,47,0⟩ 0 ls.length ls.length),(92,I ls.length),(93,I k),(120,tpP ls[k] day),(121,I 0),(135,LWd W1),(136,I W1.length),(137,I j)])
     (fun j=>tpN ls q ls[k] day (ls[k].pf,day-1,ls[k].pd) j ((W1.take j).flatMap Wdw.cells)) W1.length (fun j hj ih2=> ?_) 0 (Nat.zero_le _)) rfl rfl
    by_cases hj2:j<W1.length
    ·have ih2:=ih2 hj2
     rw [yaq Wdw.cells hj2] at ih2
     repeat' ((conv=>whnf);first
     | refine Yz ?_
      | (refine zcz.rec Wdw.cells_length j rfl hj2 ?_)
      | (refine zad.to ih2 rfl rfl)
      | fail)
    ·obtain rfl:j=W1.length:=by omega
     clear ih2
     rw [List.take_length]
     repeat' ((conv=>whnf);first
     | refine Yz ?_
      | fail)
     refine zad.step g.lim ?_
     repeat' ((conv=>whnf);first
     | refine Yz ?_
      | (apply zae.of;assumption)
      | (refine zcz.now (Nat.le_of_ble_eq_true rfl) rfl ?_)
      | fail)
     refine zad.to (zad.up g (fun j=>[(0,LLm ls),(1,LMv m),(5,.ptr ⟨0,5,0⟩ 0 0),(7,.ref ⟨0,47,0⟩ 0 ls.length ls.length),(9,I day),(10,I k),(11,.ptr ⟨0,11,0⟩ 0 0),(14,LWd (W1++W2)),(16,.ref ⟨0,16,0⟩ 0 (W1.length+j) (W1.length+j)),(91,.ref ⟨0,47,0⟩ 0 ls.length ls.length),(92,I ls.length),(93,I k),(120,tpP ls[k] day),(121,I 1),(135,LWd W2),(136,I W2.length),(137,I j)])
      (fun j=>tpN ls q ls[k] day (day,ls[k].pt,ls[k].pd) (W1.length+j) (W1.flatMap Wdw.cells++(W2.take j).flatMap Wdw.cells)) W2.length (fun j hj ih2=> ?_) 0 (Nat.zero_le _)) rfl (by simp [Lmt.per])
     by_cases hj2:j<W2.length
     ·have ih2:=ih2 hj2
      rw [yaq Wdw.cells hj2,<-List.append_assoc] at ih2
      repeat' ((conv=>whnf);first
      | refine Yz ?_
       | (refine zcz.rec Wdw.cells_length j rfl hj2 ?_)
       | (refine zad.to ih2 rfl rfl)
       | fail)
     ·obtain rfl:j=W2.length:=by omega
      clear ih2
      rw [List.take_length]
      repeat' ((conv=>whnf);first
      | refine Yz ?_
       | fail)
      have hln:W1.length+W2.length=(W1++W2).length:=by simp
      have hfl:W1.flatMap Wdw.cells++W2.flatMap Wdw.cells=(W1++W2).flatMap Wdw.cells:=by simp
      have hW:(W1++W2).length<=400:=by omega
      rw [hln,hfl]
      clear hln hfl
      generalize W1++W2=W at *
      refine zad.step g.lim ?_
      repeat' ((conv=>whnf);first
      | refine Yz ?_
       | fail)
      refine zad.to (zad.up g (fun j=>[(0,LLm ls),(1,LMv m),(5,.ptr ⟨0,5,0⟩ 0 0),(7,.ref ⟨0,47,0⟩ 0 ls.length ls.length),(9,I day),(10,I k),(14,LWd W),(16,.ref ⟨0,16,0⟩ 0 W.length W.length),(91,.ref ⟨0,47,0⟩ 0 ls.length ls.length),(92,I ls.length),(93,I k),(153,I W.length),(154,I j)])
       (fun _=>tpM ls q++[(⟨0,11,0⟩,.cells zab (lmC (ls[k].per (day,ls[k].pt,ls[k].pd)))),(⟨0,12,0⟩,.cells zd4 [I ls[k].pf,I (day-1),I ls[k].pd,I day,I ls[k].pt,I ls[k].pd]),(⟨0,16,0⟩,.row false zda 3 W.length (W.flatMap Wdw.cells))]) W.length (fun j hj ih2=> ?_) 0 (Nat.zero_le _)) rfl rfl
      by_cases hj2:j<W.length
      ·have ih2:=ih2 hj2
       repeat' ((conv=>whnf);first
       | refine Yz ?_
        | (refine zcz.rec Wdw.cells_length j rfl hj2 ?_)
        | (refine zcz.rec0 Wdw.cells_length j rfl hj2 ?_)
        | (refine Cmp.ff (fun h=>h ⟨rfl,rfl,rfl⟩) ?_)
        | (refine zad.to ih2 rfl rfl)
        | fail)
      ·obtain rfl:j=W.length:=by omega
       clear ih2
       repeat' ((conv=>whnf);first
       | refine Yz ?_
        | (refine zki.mk ⟨rfl,(yd4 ls k hlt).1,rfl⟩ ?_;rw [(yd4 ls k hlt).2])
        | (refine zcz.part (ds:=[DI ls[k].pf,DI ls[k].pt,DI ls[k].pd]) Lmt.cells_length k rfl hlt (by decide) rfl ?_)
        | (refine zad.to ih rfl rfl)
        | fail)
  ·obtain rfl:k=ls.length:=by omega
   clear ih
   have sm:=znl g q a4
   have hdn:(zaq q).length<=8:=by
    have:=zdm q.fr q.da (q.to-q.fr+1).toNat
    unfold zaq
    omega
   have dd:=zvq g q.fr q.to q.da (zay.2 hp)
   change Fc E zbs _ (.tup [LI (zaq q),I 0]) at dd
   have hck:=yho q.fr q.da (q.to-q.fr+1).toNat (by omega) (by omega)
   change zpc (zaq q)=0 at hck
   have sf:=z96 g ls m q b4 hv b6 a4
   have hml:(zmh q).length=(zaq q).length:=by simp [zmh]
   have cm:=zrs g (zmh q) (by omega)
   rw [ybc a4 (by omega)] at cm
   have sp:=yeu g q.fr q.to q.da day
   rw [if_neg (fun h=>h (zay.2 hp))] at sp
   have hjl:(zcr (zaq q)).length<=(zaq q).length:=z3t _ _
   have hcl:=zbd zjt 3 zsw (zcr (zaq q))
   obtain⟨b,hb0,hb1,hb2⟩:=yhm (yk7 (l:=zaq q))
   obtain⟨n,hn⟩:∃n,n=(zcr (zaq q)).length:=⟨_,rfl⟩
   obtain⟨J,hJ⟩:∃J:Nat->List Mvt,∀r,J r=(zmh q).take (b (min r n)):=⟨_,fun _=>rfl⟩
   have hJ0:J 0=[]:=by rw [hJ,Nat.zero_min,hb0];rfl
   have hmi:q.mi<=1439:=by
    have hh:=a4
    unfold zkx at hh
    rw [zbn] at hh
    simp only [List.mem_cons,List.not_mem_nil,or_false,forall_eq_or_imp,forall_eq,zfc] at hh
    exact hh.2.2.2.2.1.2
   by_cases hone:q.fr=q.to
   ·rw [if_pos (by omega)] at sp
    repeat' ((conv=>whnf);first
    | refine Yz ?_
     | (apply zae.of;assumption)
     | (refine zgx.join g _ hck ?_)
     | (refine zae.of (r:= .tup [B (zpe ls m q),I 0]) (by rw [if_pos ⟨rfl,rfl⟩];exact sf) ?_)
     | (refine Cmp.ff (fun h=>h (by rw [hml])) ?_)
     | fail)
    have hT:∀p∈([]:List (Int×Int×Int)),ze5 p.1 p.2.1 p.2.2=0:=fun _ h=>absurd h List.not_mem_nil
    have hTl:(([]:List (Int×Int×Int)).flatMap fun p=>zmh (q.per p)).length<=8:=by simp
    refine zad.to (zad.upP g (fun r=>[(1,LMv m),(5,.ptr ⟨0,5,0⟩ 0 0),(7,.ref ⟨0,47,0⟩ 0 ls.length ls.length),(24,LMv (zmh q)),(28,ClP (zcr (zaq q))),(30,B (zpe ls m q)),(32,LP (zcr (zaq q)++[])),(35,.ref ⟨0,35,0⟩ 0 (J r).length (J r).length),(36,.ref ⟨0,36,0⟩ 0 (tpS q n [] r).length (tpS q n [] r).length),(37,B (tpB ls m q n [] r)),(243,LP (zcr (zaq q)++[])),(244,I (zcr (zaq q)++[]).length),(245,I r)])
     (fun r=>tpR ls q [(⟨0,33,0⟩,.cells zd4 [I 0,I 0,I 0,I 0,I 0,I 0])] (J r) (tpS q n [] r)) (fun _=>True) (zcr (zaq q)++[]).length (fun r hr _ ih=> ?_) 0 (Nat.zero_le _) trivial) (by simp [hJ0,tpS,tpB]) (by simp [hJ0,tpS])
    by_cases hrl:r<(zcr (zaq q)++[]).length
    ·have ih:=ih hrl trivial
     have hPl:(zcr (zaq q)++[]).length<=10:=by
      simp only [List.length_append,List.length_nil];omega
     have hJl:(J r).length<=8:=by
      rw [hJ,List.length_take];omega
     by_cases hrn:r<n
     ·obtain⟨hbr,w,ho⟩:=hb2 r (by omega)
      obtain⟨u,hu1,hu2,_,_,hu5⟩:=yhn hck hbr ho
      have hpr:(zcr (zaq q)++[])[r]=(zcr (zaq q))[r]:=List.getElem_append_left (by omega)
      have hpc:=zw7 a4 (yeh hck ho)
      rw [<-hpr] at hu1 hpc
      have smr:=znl g _ hpc
      have sfr:=z96 g ls m _ b4 hv b6 hpc
      have hJs:J (r+1)=J r++zmh (q.per (zcr (zaq q)++[])[r]):=by
       rw [hJ,hJ,Nat.min_eq_left (by omega),Nat.min_eq_left (by omega),z1j,hu1]
       unfold zmh
       rw [<-List.map_take,<-List.map_take,<-hu5,List.map_append]
      have hSs:tpS q n [] (r+1)=tpS q n [] r:=by unfold tpS;rw [show r+1-n=0 by omega,show r-n=0 by omega]
      have hBs:tpB ls m q n [] (r+1)=tpB ls m q n [] r:=by unfold tpB;rw [show r+1-n=0 by omega,show r-n=0 by omega]
      have hul:(zmh (q.per (zcr (zaq q)++[])[r])).length<=8:=by
       rw [z1j,hu1,List.length_map]
       have:=congrArg List.length hu5
       rw [List.length_append,List.length_take,List.length_take] at this
       omega
      have hfc:=zbd Mvt.cells 7 Mvt.cells_length (zmh (q.per (zcr (zaq q)++[])[r]))
      rw [hJs,hSs,hBs] at ih
      simp only [tpR] at ih
      rw [@List.length_append _ (J r),List.flatMap_append (xs:=J r)] at ih
      clear hu1 hu2 hu5 hJs hSs hBs sf sm cm dd
      repeat' ((conv=>whnf);first
      | refine Yz ?_
       | (apply zae.of;assumption)
       | (refine zcz.rec zsw r (by omega) hrl ?_)
       | (refine zae.of (r:= .tup [B (zpe ls m (q.per (zcr (zaq q)++[])[r])),I 0]) (by rw [if_pos ⟨rfl,rfl⟩];exact sfr) ?_)
       | (refine zki.mk ⟨rfl,rfl,rfl,rfl,rfl,hfc,by show (_+_)*80<=_;omega,by omega⟩ ?_)
       | (refine zad.to ih rfl rfl)
       | fail)
     ·have hrT:r-n<([]:List (Int×Int×Int)).length:=by
       rw [List.length_append] at hrl
       omega
      have hpr:(zcr (zaq q)++[])[r]=[][r-n]:=by
       rw [List.getElem_append_right (by omega)]
       simp only [hn]
      have hpc:=zw7 a4 (hT _ (List.getElem_mem hrT))
      rw [<-hpr] at hpc
      have smr:=znl g _ hpc
      have sfr:=z96 g ls m _ b4 hv b6 hpc
      have hJs:J (r+1)=J r:=by
       rw [hJ,hJ,Nat.min_eq_right (by omega),Nat.min_eq_right (by omega)]
      have htk:[].take (r+1-n)=[].take (r-n)++[(zcr (zaq q)++[])[r]]:=by
       rw [show r+1-n=r-n+1 by omega,List.take_add_one,List.getElem?_eq_getElem hrT,hpr];rfl
      have hSs:tpS q n [] (r+1)=tpS q n [] r++zmh (q.per (zcr (zaq q)++[])[r]):=by
       unfold tpS
       rw [htk,List.flatMap_append];simp
      have hBs:tpB ls m q n [] (r+1)=(tpB ls m q n [] r&&zpe ls m (q.per (zcr (zaq q)++[])[r])):=by
       unfold tpB
       rw [htk,List.all_append];simp
      have hul:(tpS q n [] (r+1)).length<=8:=by
       have ht:=congrArg List.length (congrArg (List.flatMap fun p=>zmh (q.per p)) (List.take_append_drop (r+1-n) []))
       rw [List.flatMap_append,List.length_append] at ht
       unfold tpS
       omega
      rw [hSs,List.length_append] at hul
      have hfc:=zbd Mvt.cells 7 Mvt.cells_length (zmh (q.per (zcr (zaq q)++[])[r]))
      rw [hJs,hSs,hBs] at ih
      simp only [tpR] at ih
      rw [@List.length_append _ (tpS q n [] r),List.flatMap_append (xs:=tpS q n [] r)] at ih
      clear hJs hSs hBs sf sm cm dd htk
      generalize tpB ls m q n [] r=bb at *
      cases bb
      all_goals
       repeat' ((conv=>whnf);first
       | refine Yz ?_
        | (apply zae.of;assumption)
        | (refine zcz.rec zsw r (by omega) hrl ?_)
        | (refine zae.of (r:= .tup [B (zpe ls m (q.per (zcr (zaq q)++[])[r])),I 0]) (by rw [if_pos ⟨rfl,rfl⟩];exact sfr) ?_)
        | (refine zki.mk ⟨rfl,rfl,rfl,rfl,rfl,hfc,by show (_+_)*80<=_;omega,by omega⟩ ?_)
        | (refine zad.to ih rfl rfl)
        | fail)
    ·have hrP:r=(zcr (zaq q)++[]).length:=by omega
     rw [hrP]
     clear ih
     have hrn:n<=(zcr (zaq q)++[]).length:=by rw [List.length_append];omega
     have hJe:J (zcr (zaq q)++[]).length=zmh q:=by
      rw [hJ,Nat.min_eq_right hrn,hn,hb1,<-hml,List.take_length]
     have rm:=yjd g (zmh q) (zmh q) (by omega) (z50 q) (List.Perm.refl _) (zvm q)
     have rs:=zti g (zmh q) (by omega)
     rw [hJe]
     repeat' ((conv=>whnf);first
     | refine Yz ?_
      | (apply zae.of;assumption)
      | (refine zae.of (r:=LMv (zmh q)) (by rw [if_pos ⟨rfl,rfl⟩];exact rm) ?_)
      | (refine Cmp.tt (by simp) ?_)
      | (refine Ret.mk rfl)
      | fail)
   ·have hd2:=hday2 (by omega)
    rw [if_neg (by omega)] at sp
    repeat' ((conv=>whnf);first
    | refine Yz ?_
     | (apply zae.of;assumption)
     | (refine zgx.join g _ hck ?_)
     | (refine zae.of (r:= .tup [B (zpe ls m q),I 0]) (by rw [if_pos ⟨rfl,rfl⟩];exact sf) ?_)
     | (refine Cmp.ff (fun h=>h (by rw [hml])) ?_)
     | (refine zki.mk ⟨by decide,rfl,hcl,by show _*24<=_;omega,by show _+2<=_;omega⟩ ?_)
     | fail)
    have hT:∀p∈[(q.fr,day-1,q.da),(day,q.to,q.da)],ze5 p.1 p.2.1 p.2.2=0:=by
     intro p hp'
     simp only [List.mem_cons,List.not_mem_nil,or_false] at hp'
     rcases hp' with rfl|rfl
     ·exact zay.2 (by simp only;omega)
     ·exact zay.2 (by simp only;omega)
    have hTm:([(q.fr,day-1,q.da),(day,q.to,q.da)].flatMap fun p=>zmh (q.per p))=zmh q:=by
     rw [yf4 q day ⟨by omega,hd2⟩];simp
    have hTl:([(q.fr,day-1,q.da),(day,q.to,q.da)].flatMap fun p=>zmh (q.per p)).length<=8:=by rw [hTm];omega
    have hTf:([(q.fr,day-1,q.da),(day,q.to,q.da)].all fun p=>zpe ls m (q.per p))=zpe ls m q:=by
     rw [yfs ls m q (q.fr,day-1,q.da) (day,q.to,q.da) hmi (z2y q day ⟨by omega,hd2⟩)];simp
    refine zad.to (zad.upP g (fun r=>[(1,LMv m),(5,.ptr ⟨0,5,0⟩ 0 0),(7,.ref ⟨0,47,0⟩ 0 ls.length ls.length),(24,LMv (zmh q)),(28,ClP (zcr (zaq q))),(30,B (zpe ls m q)),(32,LP (zcr (zaq q)++[(q.fr,day-1,q.da),(day,q.to,q.da)])),(35,.ref ⟨0,35,0⟩ 0 (J r).length (J r).length),(36,.ref ⟨0,36,0⟩ 0 (tpS q n [(q.fr,day-1,q.da),(day,q.to,q.da)] r).length (tpS q n [(q.fr,day-1,q.da),(day,q.to,q.da)] r).length),(37,B (tpB ls m q n [(q.fr,day-1,q.da),(day,q.to,q.da)] r)),(243,LP (zcr (zaq q)++[(q.fr,day-1,q.da),(day,q.to,q.da)])),(244,I (zcr (zaq q)++[(q.fr,day-1,q.da),(day,q.to,q.da)]).length),(245,I r)])
     (fun r=>tpR ls q [(⟨0,33,0⟩,.cells zd4 [I q.fr,I (day-1),I q.da,I day,I q.to,I q.da]),(⟨0,242,0⟩,.row false zag 3 ((zcr (zaq q)).length+2) ((zcr (zaq q)).flatMap zjt++[DI q.fr,DI (day-1),DI q.da,DI day,DI q.to,DI q.da]))] (J r) (tpS q n [(q.fr,day-1,q.da),(day,q.to,q.da)] r)) (fun _=>True) (zcr (zaq q)++[(q.fr,day-1,q.da),(day,q.to,q.da)]).length (fun r hr _ ih=> ?_) 0 (Nat.zero_le _) trivial) (by simp [hJ0,tpS,tpB,zjt]) (by simp [hJ0,tpS])
    by_cases hrl:r<(zcr (zaq q)++[(q.fr,day-1,q.da),(day,q.to,q.da)]).length
    ·have ih:=ih hrl trivial
     have hPl:(zcr (zaq q)++[(q.fr,day-1,q.da),(day,q.to,q.da)]).length<=10:=by
      simp only [List.length_append,List.length_cons,List.length_nil];omega
     have hJl:(J r).length<=8:=by
      rw [hJ,List.length_take];omega
     by_cases hrn:r<n
     ·obtain⟨hbr,w,ho⟩:=hb2 r (by omega)
      obtain⟨u,hu1,hu2,_,_,hu5⟩:=yhn hck hbr ho
      have hpr:(zcr (zaq q)++[(q.fr,day-1,q.da),(day,q.to,q.da)])[r]=(zcr (zaq q))[r]:=List.getElem_append_left (by omega)
      have hpc:=zw7 a4 (yeh hck ho)
      rw [<-hpr] at hu1 hpc
      have smr:=znl g _ hpc
      have sfr:=z96 g ls m _ b4 hv b6 hpc
      have hJs:J (r+1)=J r++zmh (q.per (zcr (zaq q)++[(q.fr,day-1,q.da),(day,q.to,q.da)])[r]):=by
       rw [hJ,hJ,Nat.min_eq_left (by omega),Nat.min_eq_left (by omega),z1j,hu1]
       unfold zmh
       rw [<-List.map_take,<-List.map_take,<-hu5,List.map_append]
      have hSs:tpS q n [(q.fr,day-1,q.da),(day,q.to,q.da)] (r+1)=tpS q n [(q.fr,day-1,q.da),(day,q.to,q.da)] r:=by unfold tpS;rw [show r+1-n=0 by omega,show r-n=0 by omega]
      have hBs:tpB ls m q n [(q.fr,day-1,q.da),(day,q.to,q.da)] (r+1)=tpB ls m q n [(q.fr,day-1,q.da),(day,q.to,q.da)] r:=by unfold tpB;rw [show r+1-n=0 by omega,show r-n=0 by omega]
      have hul:(zmh (q.per (zcr (zaq q)++[(q.fr,day-1,q.da),(day,q.to,q.da)])[r])).length<=8:=by
       rw [z1j,hu1,List.length_map]
       have:=congrArg List.length hu5
       rw [List.length_append,List.length_take,List.length_take] at this
       omega
      have hfc:=zbd Mvt.cells 7 Mvt.cells_length (zmh (q.per (zcr (zaq q)++[(q.fr,day-1,q.da),(day,q.to,q.da)])[r]))
      rw [hJs,hSs,hBs] at ih
      simp only [tpR] at ih
      rw [@List.length_append _ (J r),List.flatMap_append (xs:=J r)] at ih
      clear hu1 hu2 hu5 hJs hSs hBs sf sm cm dd
      repeat' ((conv=>whnf);first
      | refine Yz ?_
       | (apply zae.of;assumption)
       | (refine zcz.rec zsw r (by omega) hrl ?_)
       | (refine zae.of (r:= .tup [B (zpe ls m (q.per (zcr (zaq q)++[(q.fr,day-1,q.da),(day,q.to,q.da)])[r])),I 0]) (by rw [if_pos ⟨rfl,rfl⟩];exact sfr) ?_)
       | (refine zki.mk ⟨rfl,rfl,rfl,rfl,rfl,hfc,by show (_+_)*80<=_;omega,by omega⟩ ?_)
       | (refine zad.to ih rfl rfl)
       | fail)
     ·have hrT:r-n<([(q.fr,day-1,q.da),(day,q.to,q.da)]:List (Int×Int×Int)).length:=by
       rw [List.length_append] at hrl
       omega
      have hpr:(zcr (zaq q)++[(q.fr,day-1,q.da),(day,q.to,q.da)])[r]=[(q.fr,day-1,q.da),(day,q.to,q.da)][r-n]:=by
       rw [List.getElem_append_right (by omega)]
       simp only [hn]
      have hpc:=zw7 a4 (hT _ (List.getElem_mem hrT))
      rw [<-hpr] at hpc
      have smr:=znl g _ hpc
      have sfr:=z96 g ls m _ b4 hv b6 hpc
      have hJs:J (r+1)=J r:=by
       rw [hJ,hJ,Nat.min_eq_right (by omega),Nat.min_eq_right (by omega)]
      have htk:[(q.fr,day-1,q.da),(day,q.to,q.da)].take (r+1-n)=[(q.fr,day-1,q.da),(day,q.to,q.da)].take (r-n)++[(zcr (zaq q)++[(q.fr,day-1,q.da),(day,q.to,q.da)])[r]]:=by
       rw [show r+1-n=r-n+1 by omega,List.take_add_one,List.getElem?_eq_getElem hrT,hpr];rfl
      have hSs:tpS q n [(q.fr,day-1,q.da),(day,q.to,q.da)] (r+1)=tpS q n [(q.fr,day-1,q.da),(day,q.to,q.da)] r++zmh (q.per (zcr (zaq q)++[(q.fr,day-1,q.da),(day,q.to,q.da)])[r]):=by
       unfold tpS
       rw [htk,List.flatMap_append];simp
      have hBs:tpB ls m q n [(q.fr,day-1,q.da),(day,q.to,q.da)] (r+1)=(tpB ls m q n [(q.fr,day-1,q.da),(day,q.to,q.da)] r&&zpe ls m (q.per (zcr (zaq q)++[(q.fr,day-1,q.da),(day,q.to,q.da)])[r])):=by
       unfold tpB
       rw [htk,List.all_append];simp
      have hul:(tpS q n [(q.fr,day-1,q.da),(day,q.to,q.da)] (r+1)).length<=8:=by
       have ht:=congrArg List.length (congrArg (List.flatMap fun p=>zmh (q.per p)) (List.take_append_drop (r+1-n) [(q.fr,day-1,q.da),(day,q.to,q.da)]))
       rw [List.flatMap_append,List.length_append] at ht
       unfold tpS
       omega
      rw [hSs,List.length_append] at hul
      have hfc:=zbd Mvt.cells 7 Mvt.cells_length (zmh (q.per (zcr (zaq q)++[(q.fr,day-1,q.da),(day,q.to,q.da)])[r]))
      rw [hJs,hSs,hBs] at ih
      simp only [tpR] at ih
      rw [@List.length_append _ (tpS q n [(q.fr,day-1,q.da),(day,q.to,q.da)] r),List.flatMap_append (xs:=tpS q n [(q.fr,day-1,q.da),(day,q.to,q.da)] r)] at ih
      clear hJs hSs hBs sf sm cm dd htk
      generalize tpB ls m q n [(q.fr,day-1,q.da),(day,q.to,q.da)] r=bb at *
      cases bb
      all_goals
       repeat' ((conv=>whnf);first
       | refine Yz ?_
        | (apply zae.of;assumption)
        | (refine zcz.rec zsw r (by omega) hrl ?_)
        | (refine zae.of (r:= .tup [B (zpe ls m (q.per (zcr (zaq q)++[(q.fr,day-1,q.da),(day,q.to,q.da)])[r])),I 0]) (by rw [if_pos ⟨rfl,rfl⟩];exact sfr) ?_)
        | (refine zki.mk ⟨rfl,rfl,rfl,rfl,rfl,hfc,by show (_+_)*80<=_;omega,by omega⟩ ?_)
        | (refine zad.to ih rfl rfl)
        | fail)
    ·have hrP:r=(zcr (zaq q)++[(q.fr,day-1,q.da),(day,q.to,q.da)]).length:=by omega
     rw [hrP]
     clear ih
     have hrn:n<=(zcr (zaq q)++[(q.fr,day-1,q.da),(day,q.to,q.da)]).length:=by rw [List.length_append];omega
     have hJe:J (zcr (zaq q)++[(q.fr,day-1,q.da),(day,q.to,q.da)]).length=zmh q:=by
      rw [hJ,Nat.min_eq_right hrn,hn,hb1,<-hml,List.take_length]
     have rm:=yjd g (zmh q) (zmh q) (by omega) (z50 q) (List.Perm.refl _) (zvm q)
     have rs:=zti g (zmh q) (by omega)
     have hSe:tpS q n [(q.fr,day-1,q.da),(day,q.to,q.da)] (zcr (zaq q)++[(q.fr,day-1,q.da),(day,q.to,q.da)]).length=zmh q:=by
      unfold tpS
      rw [List.take_of_length_le (by rw [List.length_append];omega)]
      exact hTm
     have hBe:tpB ls m q n [(q.fr,day-1,q.da),(day,q.to,q.da)] (zcr (zaq q)++[(q.fr,day-1,q.da),(day,q.to,q.da)]).length=zpe ls m q:=by
      unfold tpB
      rw [List.take_of_length_le (by rw [List.length_append];omega)]
      exact hTf
     rw [hJe]
     repeat' ((conv=>whnf);first
     | refine Yz ?_
      | (apply zae.of;assumption)
      | (refine zae.of (r:=LMv (zmh q)) (by rw [if_pos ⟨rfl,rfl⟩];exact rm) ?_)
      | (refine Cmp.ff (by simp;omega) ?_)
      | (refine zae.of (r:=B true) (by rw [if_pos ⟨rfl,rfl⟩,hSe];exact rs) ?_)
      | (rw [hBe,beq_self_eq_true])
      | (refine Ret.mk rfl)
      | fail)
 ·cases h1:twL ls
  ·repeat' ((conv=>whnf);first
  | refine Yz ?_
    | (apply zae.of;assumption)
    | (refine zgx.tower g ls hl rfl ?_;rw [h1])
    | (refine Ret.mk rfl)
    | fail)
  ·cases h2:twM m
   ·rw [h2] at t1
    repeat' ((conv=>whnf);first
    | refine Yz ?_
     | (apply zae.of;assumption)
     | (refine zgx.tower g ls hl rfl ?_;rw [h1])
     | (refine Ret.mk rfl)
     | fail)
   ·rw [h2] at t1
    cases h3:z8b q
    ·rw [h3] at t2
     repeat' ((conv=>whnf);first
     | refine Yz ?_
      | (apply zae.of;assumption)
      | (refine zgx.tower g ls hl rfl ?_;rw [h1])
      | (refine Ret.mk rfl)
      | fail)
    ·rw [h3] at t2
     by_cases h4:zkx q=0
     ·have hp:=zay.1 (show ze5 q.fr q.to q.da=0 by
       have hh:=h4
       unfold zkx at hh
       rw [zbn] at hh
       simp only [List.mem_cons,List.not_mem_nil,or_false,forall_eq_or_imp,forall_eq] at hh
       exact hh.2.2.2.1)
      have h5:8<=q.to-q.fr:=Int.not_lt.1 fun h=>hall ⟨h1,h2,h3,h4,h⟩
      rw [h4] at t3
      repeat' ((conv=>whnf);first
      | refine Yz ?_
       | (apply zae.of;assumption)
       | (refine zgx.tower g ls hl rfl ?_;rw [h1])
       | (refine Ret.mk rfl)
       | fail)
     ·repeat' ((conv=>whnf);first
     | refine Yz ?_
       | (apply zae.of;assumption)
       | (refine zgx.tower g ls hl rfl ?_;rw [h1])
       | (refine Cmp.tt h4 ?_)
       | (refine Ret.mk rfl)
       | fail)
end
theorem yjn {E:Oracle} (g:Good E) {xs:List D} (h:z66 Tryz.prog [22,23,27] xs) (hb:zku 1048576 xs):Fc E zjd (asV xs) (B true):=by
 obtain⟨x,y,z,rfl,h1,h2,h3⟩:=yp7 h
 obtain⟨l,rfl⟩:=ya2 h1
 obtain⟨m,rfl⟩:=z6t h2
 obtain⟨q,rfl⟩:=z8r h3
 exact z39 g l m q hb.1.1 (ygh g)
end Go.Proofs.YtjfnkgfhbplfaaaGreatDoor.Co
