/-
  OfficeTorn returns true, for every argument: the law, and the last part of what it leans on.
-/
import Derived.Laws.RangeAny
import Derived.Lib.SplitLaws
import Derived.Test.YtnabmkmhbncidaaGreatDoorAwR
import Derived.Test.YtnabmkmhbncidaaGreatDoorEvX
import Derived.Test.YtnabmkmhbncidaaGreatDoorEvY
import Derived.Test.YtnabmkmhbncidaaGreatDoorRead
import Derived.Test.YtnabmkmhbncidaaGreatDoorSpBase
import Derived.Test.YtnabmkmhbncidaaGreatDoorOtb
namespace Go.Proofs.YtnabmkmhbncidaaGreatDoor.Co
open Go Go.Evl
set_option maxHeartbeats 32000000
set_option maxRecDepth 100000
abbrev isA:List Evl.Id:=[⟨0,122,0⟩,⟨0,122,1⟩,⟨0,122,2⟩,⟨0,122,3⟩,⟨0,122,4⟩]
abbrev isB:List Evl.Id:=[⟨0,127,0⟩,⟨0,127,1⟩,⟨0,127,2⟩,⟨0,127,3⟩,⟨0,127,4⟩]
abbrev U16 (a:Int):D:= .int .u16 a
abbrev mTo (a b c:Int) (r:Rgs) (l:List Evt) (n:Nat):Mem:=[(⟨0,3,0⟩,.cells z0f [.d (U16 a),.d (U16 b),.d (U16 c)]),(⟨0,5,0⟩,.cells zaj [I r.kn,.d (.list r.es.length (r.es.flatMap Ent.cells)),.d (.list r.rs.length (r.rs.flatMap Rmv.cells)),.d (.list r.cs.length (r.cs.flatMap Cpl.cells))]),(⟨0,9,0⟩,.row false zbs 1 n ((yln l n).map DI))]
section
variable {E : Oracle} (g : Good E)
include g
theorem z8r (l:List Evt) (hl0:l.length<=9223372036854775807) (hb:∀e∈l,yos e) (a b c:Int) (ha:0<=a/\a<=65535) (hb':0<=b/\b<=65535) (hc':0<=c/\c<=65535):Fc E zi7 [LE l,.d (.agg [U16 a,U16 b,U16 c])] (B true):=by
 have aw:=yn2 g
 have hsh:=z47 g l 16 (by decide) hl0 (fun e he=>⟨(hb e he).ns,(hb e he).vs,(hb e he).ki,(hb e he).tx,(hb e he).na⟩)
 cases h1:(decide ((l.length:Int)<=16)&&l.all zpe) with
 | false=>
  rw [h1] at hsh
  refine g.fn rfl rfl ?_
  repeat' ((conv=>whnf);first
  | refine Yz ?_
   | (apply zak.of;assumption)
   | (refine Ret.mk rfl)
   | fail)
 | true=>
 rw [h1] at hsh
 obtain⟨hl,hs⟩:=ykv h1
 have hl:l.length<=16:=by omega
 have hs':∀e∈l,e.ns.length<=1000000/\e.vs.length<=1000000:=fun e he=>by have:=hs e he;omega
 have hrp:=yke g l (by omega) hs'
 generalize (zfc rg0 0 l).2.1=at0 at hrp
 clear hs hl0 hb h1
 by_cases hz:erL l=0
 case neg=>
  generalize erL l=y at *
  generalize rgL l=r0 at *
  obtain⟨kn0,es0,rs0,cs0⟩:=r0
  change Fc E zj8 [LE l] (.tup [.d (.agg [DI kn0,.list es0.length (es0.flatMap Ent.cells),.list rs0.length (rs0.flatMap Rmv.cells),.list cs0.length (cs0.flatMap Cpl.cells)]),I at0,I y]) at hrp
  refine g.fn rfl rfl ?_
  repeat' ((conv=>whnf);first
  | refine Yz ?_
   | (apply zak.of;assumption)
   | (refine Cmp.ff hz ?_)
   | (refine Cmp.tt hz ?_)
   | (refine Ret.mk rfl)
   | fail)
 have hr0:(.tup [Rgv (rgL l),I at0,I (erL l)]:V)= .tup [.d (.agg [DI (rgL l).kn,.list (rgL l).es.length ((rgL l).es.flatMap Ent.cells),.list (rgL l).rs.length ((rgL l).rs.flatMap Rmv.cells),.list (rgL l).cs.length ((rgL l).cs.flatMap Cpl.cells)]),I at0,I 0]:=by rw [hz]
 rw [hr0] at hrp
 clear hr0
 by_cases hl1:l.length=0
 ·refine g.fn rfl rfl ?_
  repeat' ((conv=>whnf);first
  | refine Yz ?_
   | (apply zak.of;assumption)
   | (refine Ret.mk rfl)
   | fail)
 have hpos:0<l.length:=by omega
 have hlg0:=z9v l fun e he=>(ybj (zjv hz e he)).2
 have hbt:∀k,(zbl (l.take k)).length<=(zbl l).length:=ygf l
 refine g.fn rfl rfl ?_
 repeat' ((conv=>whnf);first
 | refine Yz ?_
  | (apply zak.of;assumption)
  | fail)
 refine zam.to (zam.up g (fun k=>[(0,LE l),(3,.ptr ⟨0,3,0⟩ 0 0),(8,S (zbl (l.take k))),(9,.ref ⟨0,9,0⟩ 0 k k),(63,LE l),(64,I l.length),(65,I k)])
  (fun k=>mTo a b c (rgL l) l k) l.length (fun k hk ih=> ?_) 0 (Nat.zero_le _)) rfl rfl
 have hel:=yji l k
 have hbk:=hbt k
 by_cases hlt:k<l.length
 ·have ih:=ih hlt
  have hap:=ykk g (zbl (l.take k)) l[k] (by omega) (yed (zjv hz _ (List.getElem_mem hlt)))
  rw [ymd (by omega) hz hlt] at hap
  dsimp only at hap
  have hwin:win (l.flatMap Evt.cells) (((k:Nat):Int).toNat*5) 5=l[k].cells:=by
   rw [Int.toNat_natCast]
   exact zb8 Evt.cells 5 evw l k hlt
  have hml:(l.flatMap Evt.cells).length=l.length*5:=zag Evt.cells 5 evw l
  have hlk:(zbl (l.take (k+1))).length=(zbl (l.take k)).length+((zcr l[k]).length+1):=by
   rw [z66 hlt];simp
  simp only [mTo] at ih
  rw [yfm] at ih
  generalize l[k]=e at *
  obtain⟨nu,ki,ns,vs,tx⟩:=e
  change Fc E zhf [S (zbl (l.take k)),.d (.agg [DI nu,.str ki,.list ns.length (ns.map D.str),.list vs.length (vs.map DI),.str tx])] _ at hap
  repeat' ((conv=>whnf);first
  | refine Yz ?_
   | (rw [hwin])
   | (apply zak.of;assumption)
   | (refine zco.mk ⟨rfl,rfl,rfl,rfl,rfl,hel,by dsimp only;omega,by dsimp only;omega⟩ ?_)
   | (refine Cmp.ff (fun h=>h rfl) ?_)
   | (refine zam.to ih rfl rfl)
   | fail)
 obtain rfl:k=l.length:=by omega
 clear ih hbk
 rw [List.take_length]
 repeat' ((conv=>whnf);first
 | refine Yz ?_
  | fail)
 -- how many records end before the cut
 have hcb:0<=a%(((zbl l).length:Int)+1)/\a%(((zbl l).length:Int)+1)<=(zbl l).length:=by
  have h1:=Int.emod_nonneg a (show (((zbl l).length:Int)+1)≠0 by omega)
  have h2:=Int.emod_lt_of_pos a (show 0<(((zbl l).length:Int)+1) by omega)
  omega
 generalize a%(((zbl l).length:Int)+1)=cut at *
 obtain⟨cu,rfl⟩:∃n:Nat,cut=n:=⟨cut.toNat,by omega⟩
 have hcu:cu<=(zbl l).length:=by omega
 have hwl:=yl8 l cu
 refine zam.to (zam.up g (fun k=>[(0,LE l),(3,.ptr ⟨0,3,0⟩ 0 0),(8,S (zbl l)),(9,.ref ⟨0,9,0⟩ 0 l.length l.length),(14,I cu),(15,I (min k (whE l cu):Nat)),(98,.ref ⟨0,9,0⟩ 0 l.length l.length),(99,I l.length),(100,I k)])
  (fun _=>mTo a b c (rgL l) l l.length) l.length (fun k hk ih=> ?_) 0 (Nat.zero_le _)) (by rw [Nat.zero_min];rfl) rfl
 by_cases hlt:k<l.length
 ·have ih:=ih hlt
  have hif:=yip l cu k hlt
  by_cases hle:(zbl (l.take (k+1))).length<=cu
  ·have hmin:((min (k+1) (whE l cu):Nat):Int)=((min k (whE l cu):Nat):Int)+1:=by have:=hif.1 hle;omega
   rw [hmin] at ih
   repeat' ((conv=>whnf);first
   | refine Yz ?_
    | (refine zco.mk ⟨rfl,by omega,rfl⟩ ?_)
    | (refine zfo.end k rfl hlt ?_)
    | (refine zam.to ih rfl rfl)
    | fail)
  ·have hmin:min (k+1) (whE l cu)=min k (whE l cu):=by
    have:=fun h=>hle (hif.2 h)
    omega
   rw [hmin] at ih
   repeat' ((conv=>whnf);first
   | refine Yz ?_
    | (refine zco.mk ⟨rfl,by omega,rfl⟩ ?_)
    | (refine zfo.end k rfl hlt ?_)
    | (refine zam.to ih rfl rfl)
    | fail)
 obtain rfl:k=l.length:=by omega
 clear ih
 rw [Nat.min_eq_right hwl]
 obtain⟨j,x,hrc,hx⟩:=ykh (l:=l) (by omega) hz cu
 have q1:=zqm g ((zbl l).take cu)
 have q2:=zqm g (zbl l)
 rw [hrc] at q1
 rw [yc0 (by omega) hz] at q2
 generalize hw:whE l cu=w at *
 change Fc E zba [S ((zbl l).take cu)] (.tup [LE (l.take w),I (j:Nat),I x]) at q1
 change Fc E zba [S (zbl l)] (.tup [LE l,I ((zbl l).length:Nat),I 0]) at q2
 have hlw:(l.take w).length=w:=by rw [List.length_take];omega
 have hzw:=ztv hz w
 have o1:=@zcf.open E g _ _ _ _ q1 hx (by omega) (yfp hzw) hzw
 have o2:=@zcf.open E g _ _ _ _ q2 (.inl rfl) (by omega) (yfp hz) hz
 have hsm:=ynr g (l.take w) (by omega) (yfp hzw)
 have hsm:∀n1 n2:Nat,n1=(l.take w).length->n2=(l.take w).length->Fc E zg1 [.d (.list n1 ((l.take w).flatMap Evt.cells)),.d (.list n2 ((l.take w).flatMap Evt.cells))] (B true):=by
  rintro _ _ rfl rfl
  exact hsm
 have hwp:=yla l w hwl
 have hws:=ylb l w hwl
 have hwc:=ya5 (s:=zbl l) cu
 clear hrc
 rcases hx with rfl|rfl
 all_goals
  repeat' ((conv=>whnf);first
  | refine Yz ?_
   | (apply zak.of;assumption)
   | (refine zcd.at 0 cu (by omega) (by omega) (by omega) ?_;(try dsimp only);rw [hwc])
   | (refine zcd.at 0 w (by omega) (by omega) (by omega) ?_;(try dsimp only);rw [hwp])
   | (refine zcd.at w l.length (by omega) (by omega) (by omega) ?_;(try dsimp only);rw [hws])
   | (refine o1 rfl ?_)
   | (refine o2 rfl ?_)
   | (refine zak.of (hsm _ _ (by omega) (by omega)) ?_)
   | (refine Cmp.ff (fun h=>h rfl) ?_)
   | fail)
  -- the rest is executed
  refine zam.to (zam.up g (fun k=>[(0,LE l),(3,.ptr ⟨0,3,0⟩ 0 0),(8,S (zbl l)),(9,.ref ⟨0,9,0⟩ 0 l.length l.length),(21,.ptr ⟨0,122,0⟩ 0 0),(23,.ptr ⟨0,127,0⟩ 0 0),(162,.d (.list (l.length-w) ((l.drop w).flatMap Evt.cells))),(163,I (l.length-w:Nat)),(164,I k)])
   (fun k=>mTo a b c (rgL l) l l.length++mSs 0 122 (l.take (w+k)) (rgL (l.take (w+k)))++mSs 0 127 l (rgL l)) (l.length-w) (fun k hk ih=> ?_) 0 (Nat.zero_le _)) rfl rfl
  by_cases hlt:k<l.length-w
  ·have ih:=ih hlt
   have hlt':w+k<l.length:=by omega
   have hzk:=ztv hz (w+k)
   have hlk:(l.take (w+k)).length=w+k:=by rw [List.length_take];omega
   have hli:=ypp g l[w+k] (ylq hz _ (List.getElem_mem hlt'))
   have htl:=(ybj (zjv hz _ (List.getElem_mem hlt'))).2
   have htb:=zus l[w+k]
   have hu:=z0h g (l.take (w+k)) (by omega) hzk (z6p hzk) (by have:=ylz (l.take (w+k));omega) (zi0 l[w+k]) (by omega)
   rw [yjh (by omega) hz hlt'] at hu
   rw [show w+(k+1)=w+k+1 by omega] at ih
   have hwin:win ((l.drop w).flatMap Evt.cells) (((k:Nat):Int).toNat*5) 5=l[w+k].cells:=by
    rw [Int.toNat_natCast]
    have:=zb8 Evt.cells 5 evw (l.drop w) k (by rw [List.length_drop];omega)
    rw [this,List.getElem_drop]
   have hdl:((l.drop w).flatMap Evt.cells).length=(l.length-w)*5:=by rw [zag Evt.cells 5 evw,List.length_drop]
   generalize rgL (l.take (w+k))=r1 at *
   generalize rgL (l.take (w+k+1))=r2 at *
   generalize l.take (w+k)=l1 at *
   generalize l.take (w+k+1)=l2 at *
   generalize yfj (w+k)=dt at *
   generalize zi0 l[w+k]=bo at *
   generalize l[w+k]=e at *
   obtain⟨nu,ki,ns,vs,tx⟩:=e
   change Fc E zkt [.d (.agg [DI nu,.str ki,.list ns.length (ns.map D.str),.list vs.length (vs.map DI),.str tx])] _ at hli
   repeat' ((conv=>whnf);first
   | refine Yz ?_
    | (rw [hwin])
    | (apply zak.of;assumption)
    | (refine zog.ofI (r':= .tup [S dt,I 0]) isA rfl rfl rfl rfl hu rfl rfl rfl rfl ?_)
    | (refine Cmp.ff (fun h=>h rfl) ?_)
    | (refine zam.to ih rfl rfl)
    | fail)
  obtain rfl:k=l.length-w:=by omega
  clear ih hlt
  rw [show w+(l.length-w)=l.length by omega,List.take_length]
  -- questions to both sessions
  have ht1:=zuh g (b%40) (by omega)
  have ht2:=zuh g (c%40) (by omega)
  obtain⟨t1,d1⟩:=yi6 l
  obtain⟨t2,d2⟩:=z1r l (m:=99999) (by omega)
  obtain⟨t3,d3⟩:=ymh l (k:=99999) (m:=b%40) (by omega) (by omega)
  obtain⟨t4,d4⟩:=z1r l (m:=c%40) (by omega)
  have hrs:=ylz l
  have u1:=z0h g l (by omega) hz (z6p hz) (by omega) zzf (by decide)
  have u2:=z0h g l (by omega) hz (z6p hz) (by omega) (zgv++32::ze8 99999) (by decide)
  have dl1:(ze8 (b%40)).length<=20:=zm0 20 (b%40).toNat
  have dl2:(ze8 (c%40)).length<=20:=zm0 20 (c%40).toNat
  have d5:(ze8 99999).length=5:=by decide
  have kd1:z8y.length=3:=rfl
  have kd2:zgv.length=6:=rfl
  have u3:=z0h g l (by omega) hz (z6p hz) (by omega) (z8y++32::(ze8 99999++32::ze8 (b%40))) (by simp only [List.length_append,List.length_cons];omega)
  have u4:=z0h g l (by omega) hz (z6p hz) (by omega) (zgv++32::ze8 (c%40)) (by simp only [List.length_append,List.length_cons];omega)
  rw [d1] at u1
  rw [d2] at u2
  rw [d3] at u3
  rw [d4] at u4
  have hlog:=yre g l (rgL l) (by omega) (ylq hz) (zy3 (by omega) hz)
  clear d1 d2 d3 d4
  -- one byte changed
  have hlp:0<(zbl l).length:=by
   have h1:=hbt 1
   have h2:(zbl (l.take 1)).length=(zcr l[0]).length+1:=by
    rw [List.take_succ_eq_append_getElem hpos,List.take_zero,List.nil_append,z4o];simp
   omega
  obtain⟨kk,hkk⟩:∃n:Nat,b%((zbl l).length:Int)=n:=⟨(b%((zbl l).length:Int)).toNat,by have:=Int.emod_nonneg b (show ((zbl l).length:Int)≠0 by omega);omega⟩
  have hkl:kk<(zbl l).length:=by have:=Int.emod_lt_of_pos b (show 0<((zbl l).length:Int) by omega);omega
  have hgd:(zbl l).getD kk 0=(zbl l)[kk]:=by simp [List.getD,hkl]
  have q3:=zqm g (((zbl l).take kk++[UInt8.ofNat (32+c%200).toNat])++(zbl l).drop (kk+1))
  have hone:((zbl l).getD kk 0).toNat≠10->(32+c%200:Int)≠(((zbl l).getD kk 0).toNat:Int)->(zv5 (((zbl l).take kk++[UInt8.ofNat (32+c%200).toNat])++(zbl l).drop (kk+1))).2.2≠0/\(zv5 (((zbl l).take kk++[UInt8.ofNat (32+c%200).toNat])++(zbl l).drop (kk+1))).2.1<(zbl l).length:=by
   intro h1 h2
   have hn:(UInt8.ofNat (32+c%200).toNat).toNat=(32+c%200).toNat:=by
    rw [UInt8.toNat_ofNat']
    omega
   have e1:((zbl l).take kk++[UInt8.ofNat (32+c%200).toNat])++(zbl l).drop (kk+1)=(zbl l).take kk++UInt8.ofNat (32+c%200).toNat::(zbl l).drop (kk+1):=by simp
   rw [e1]
   rw [hgd] at h1 h2
   refine yki (by omega) hz hkl (fun e=>h1 (by rw [e];rfl)) (fun e=> ?_) (fun e=> ?_)
   ·rw [e] at hn
    omega
   ·rw [e] at hn
    have:(10:UInt8).toNat=10:=rfl
    omega
  generalize zv5 (((zbl l).take kk++[UInt8.ofNat (32+c%200).toNat])++(zbl l).drop (kk+1))=R at *
  obtain⟨l3,j3,x3⟩:=R
  dsimp only at hone
  change Fc E zba [S (((zbl l).take kk++[UInt8.ofNat (32+c%200).toNat])++(zbl l).drop (kk+1))] (.tup [LE l3,I (j3:Nat),I x3]) at q3
  have hwk:=ya5 (s:=zbl l) kk
  have hwk2:=yis (s:=zbl l) (kk+1)
  have hbt8:=zq3 ((zbl l).getD kk 0)
  have e3:z8y++32::(ze8 99999++32::ze8 (b%40))=[100,97,121,32,57,57,57,57,57,32]++ze8 (b%40):=rfl
  have e4:zgv++32::ze8 (c%40)=[99,111,117,110,116,115,32]++ze8 (c%40):=rfl
  have e2:zgv++32::ze8 99999=[99,111,117,110,116,115,32,57,57,57,57,57]:=rfl
  rw [e2] at u2
  rw [e3] at u3
  rw [e4] at u4
  have hcase:((zbl l).getD kk 0).toNat=10\/(((zbl l).getD kk 0).toNat≠10/\(32+c%200:Int)=(((zbl l).getD kk 0).toNat:Int))\/(((zbl l).getD kk 0).toNat≠10/\(32+c%200:Int)≠(((zbl l).getD kk 0).toNat:Int)):=by omega
  have hmx:zlc=9223372036854775807:=rfl
  have htl:((zbl l).take kk).length=kk:=by rw [List.length_take];omega
  have hdl:((zbl l).drop (kk+1)).length=(zbl l).length-(kk+1):=List.length_drop
  generalize hrr:rgL l=rr at *
  rcases hcase with h10|⟨h10,hv⟩|⟨h10,hv⟩
  all_goals
   repeat' ((conv=>whnf);first
   | refine Yz ?_
    | (apply zak.of;assumption)
    | with_reducible (refine zam.step (live:=[0,3,8,9,21,23,190,191,192]) g.lim ?_)
    | (refine zog.ofI (r':=Aqv (t1,0)) isA rfl rfl rfl rfl u1 rfl rfl rfl rfl ?_)
    | (refine zog.ofI (r':=Aqv (t1,0)) isB rfl rfl rfl rfl u1 rfl rfl rfl rfl ?_)
    | (refine zog.ofI (r':=Aqv (t2,0)) isA rfl rfl rfl rfl u2 rfl rfl rfl rfl ?_)
    | (refine zog.ofI (r':=Aqv (t2,0)) isB rfl rfl rfl rfl u2 rfl rfl rfl rfl ?_)
    | (refine zog.ofI (r':=Aqv (t3,0)) isA rfl rfl rfl rfl u3 rfl rfl rfl rfl ?_)
    | (refine zog.ofI (r':=Aqv (t3,0)) isB rfl rfl rfl rfl u3 rfl rfl rfl rfl ?_)
    | (refine zog.ofI (r':=Aqv (t4,0)) isA rfl rfl rfl rfl u4 rfl rfl rfl rfl ?_)
    | (refine zog.ofI (r':=Aqv (t4,0)) isB rfl rfl rfl rfl u4 rfl rfl rfl rfl ?_)
    | (refine zog.ofI (r':=S (zbl l)) isA rfl rfl rfl rfl hlog rfl rfl rfl rfl ?_)
    | (refine zco.mk (by rw [hmx];simp only [List.length_append,List.length_cons,List.length_nil];omega) ?_)
    | (refine Cmp.ff (fun h=>h rfl) ?_)
    | (refine Cmp.tt rfl ?_)
    | (refine Cmp.ff (hone h10 hv).1 ?_)
    | (refine Cmp.ff (Int.ne_of_lt (Int.ofNat_lt.2 (hone h10 hv).2)) ?_)
    | (refine Wr.k16 (by omega) ?_)
    | (refine Wr.k8 (by omega) ?_)
    | (refine zpv.at kk (by omega) hkl ?_)
    | (refine zcd.at 0 kk (by omega) (by omega) (by omega) ?_;(try dsimp only);rw [hwk])
    | (refine zcd.at (kk+1) (zbl l).length (by omega) (by omega) (by omega) ?_;(try dsimp only);rw [hwk2])
    | fail)
  all_goals
   by_cases h2:1<l.length
   case neg=>
    repeat' ((conv=>whnf);first
    | refine Yz ?_
     | (apply zak.of;assumption)
     | (refine Ret.mk rfl)
     | fail)
   obtain⟨r,hr⟩:∃n:Nat,c%((l.length:Int)-1)=n:=⟨(c%((l.length:Int)-1)).toNat,by have:=Int.emod_nonneg c (show ((l.length:Int)-1)≠0 by omega);omega⟩
   have hrl:r+1<l.length:=by have:=Int.emod_lt_of_pos c (show 0<((l.length:Int)-1) by omega);omega
   have q4:=zqm g (zbl (l.take r)++zbl (l.drop (r+1)))
   have hlk:=yhl (l:=l) (by omega) hz hrl
   generalize zv5 (zbl (l.take r)++zbl (l.drop (r+1)))=R at *
   obtain⟨l4,j4,x4⟩:=R
   dsimp only at hlk
   subst hlk
   change Fc E zba [S (zbl (l.take r)++zbl (l.drop (r+1)))] (.tup [LE l4,I (j4:Nat),I 11]) at q4
   have hb1:=hbt r
   have hb2:=hbt (r+1)
   have p1:win (zbl l) 0 ((zbl (l.take r)).length-0)=zbl (l.take r):=by
    rw [ya5,zvw l r,List.take_left' rfl]
   have p2:win (zbl l) (zbl (l.take (r+1))).length ((zbl l).length-(zbl (l.take (r+1))).length)=zbl (l.drop (r+1)):=by
    rw [yis,zvw l (r+1),List.drop_left' rfl]
   have hsl:(zbl l).length=(zbl (l.take (r+1))).length+(zbl (l.drop (r+1))).length:=by
    conv=>lhs;rw [zvw l (r+1)]
    rw [List.length_append]
   by_cases h0:r=0
   ·have p0:(zbl (l.take r)).length=0:=by rw [h0];rfl
    rw [p0] at p1
    repeat' ((conv=>whnf);first
    | refine Yz ?_
     | (apply zak.of;assumption)
     | (refine zco.mk ⟨rfl,by omega,rfl⟩ ?_)
     | (refine zfo.end r (by omega) (by omega) ?_)
     | (refine zcd.at 0 0 (by omega) (by omega) (by omega) ?_;(try dsimp only);rw [p1])
     | (refine zcd.at (zbl (l.take (r+1))).length (zbl l).length (by omega) (by omega) (by omega) ?_;(try dsimp only);rw [p2])
     | (refine zco.mk (by rw [hmx];omega) ?_)
     | (refine Ret.mk rfl)
     | fail)
   ·obtain⟨r',rfl⟩:∃r',r=r'+1:=⟨r-1,by omega⟩
    repeat' ((conv=>whnf);first
    | refine Yz ?_
     | (apply zak.of;assumption)
     | (refine zco.mk ⟨rfl,by omega,rfl⟩ ?_)
     | (refine zfo.end r' (by omega) (by omega) ?_)
     | (refine zfo.end (r'+1) (by omega) (by omega) ?_)
     | (refine zcd.at 0 (zbl (l.take (r'+1))).length (by omega) (by omega) (by omega) ?_;(try dsimp only);rw [p1])
     | (refine zcd.at (zbl (l.take (r'+1+1))).length (zbl l).length (by omega) (by omega) (by omega) ?_;(try dsimp only);rw [p2])
     | (refine zco.mk (by rw [hmx];omega) ?_)
     | (refine Ret.mk rfl)
     | fail)
end
theorem yow {x:D} (h:zqa Tryz.prog 48 x):∃a b c:Int,x= .agg [U16 a,U16 b,U16 c]/\(0<=a/\a<=65535)/\(0<=b/\b<=65535)/\(0<=c/\c<=65535):=by
 obtain⟨ds,rfl,h'⟩:=yox Tryz.underlying48 h
 obtain⟨_,_,rfl,h1,_,_,rfl,h2,_,_,rfl,h3,rfl⟩:=h'
 obtain⟨a,rfl,ha⟩:=yjn Tryz.underlying47 h1
 obtain⟨b,rfl,hb⟩:=yjn Tryz.underlying47 h2
 obtain⟨c,rfl,hc⟩:=yjn Tryz.underlying47 h3
 have wf:∀ {n:Int},(Lit.int .u16 n).wf=true->0<=n/\n<=65535:=fun h=>by
  simp only [Lit.wf,Bool.and_eq_true,decide_eq_true_eq] at h
  exact h
 exact⟨a,b,c,rfl,wf ha,wf hb,wf hc⟩
theorem yl4 {E:Oracle} (g:Good E) {xs:List D} (h:z4d Tryz.prog [24,48] xs):Fc E zi7 (asV xs) (B true):=by
 obtain⟨x,y,rfl,h1,h2⟩:=yqr h
 obtain⟨l,rfl,hl,hb⟩:=ydq h1
 obtain⟨a,b,c,rfl,ha,hb',hc⟩:=yow h2
 exact z8r g l hl hb a b c ha hb' hc
end Go.Proofs.YtnabmkmhbncidaaGreatDoor.Co
