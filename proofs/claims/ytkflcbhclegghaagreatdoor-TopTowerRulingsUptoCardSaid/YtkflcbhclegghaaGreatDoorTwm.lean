/-
  TopTowerRulings returns true, for every argument: the law, and the last part of what it leans on.
-/
import Derived.Laws.RangeAny
import Derived.Lib.SplitLaws
import Derived.Test.YtkflcbhclegghaaGreatDoorEvX
import Derived.Test.YtkflcbhclegghaaGreatDoorEvY
import Derived.Test.YtkflcbhclegghaaGreatDoorRead
import Derived.Test.YtkflcbhclegghaaGreatDoorSpBase
import Derived.Test.YtkflcbhclegghaaGreatDoorTwl
namespace Go.Proofs.YtkflcbhclegghaaGreatDoor.Co
open Go Go.Evl
set_option maxHeartbeats 32000000
set_option maxRecDepth 100000
theorem yyu{ls:List Lmt}(h:twL ls=true):ls.length<=3/\zj8 ls=0:=by
 unfold twL at h;simp only[Bool.and_eq_true,decide_eq_true_eq]at h;exact⟨h.1,h.2.2⟩
theorem ysm{α:Type}(cell:α->List D){l:List α}{k:Nat}(h:k<l.length):(l.take (k+1)).flatMap cell=(l.take k).flatMap cell++cell l[k]:=ykv cell l k h
theorem yth{ls:List Lmt}{k:Nat}(h:k<ls.length):patch (((zwg ls).take k++ls.drop k).flatMap Lmt.cells) ((0+((k:Nat):Int).toNat)*11+10) [DI (if ls[k].mo-1>0 then ls[k].mo-1 else 0)]=((zwg ls).take (k+1)++ls.drop (k+1)).flatMap Lmt.cells:=by
 have hs:(zwg ls).length=ls.length:=by rw[zwg,List.length_map]
 have ht:((zwg ls).take k).length=k:=by rw[List.length_take];omega
 have hk:k<((zwg ls).take k++ls.drop k).length:=by rw[List.length_append,List.length_drop,ht];omega
 have hg:((zwg ls).take k++ls.drop k)[k]=ls[k]:=by
  rw[List.getElem_append_right (by omega)];simp[ht]
 have he:(if ls[k].mo-1>0 then ls[k].mo-1 else 0)=max 0 (ls[k].mo-1):=by split<;>omega
 rw[Nat.zero_add,Int.toNat_natCast,he,z4c Lmt.cells 11 Lmt.cells_length _ k 10 hk (by decide) (DI (max 0 (ls[k].mo-1))) {ls[k]with mo:=max 0 (ls[k].mo-1)} (by rw[hg];rfl)];congr 1;rw[List.set_append_right _ _ (by omega),ht,Nat.sub_self,List.drop_eq_getElem_cons h,List.set_cons_zero,List.take_add_one,List.getElem?_eq_getElem (by omega),List.append_assoc];simp[zwg]
theorem zgp.two{α:Type}{cell:α->List D}{w:Nat}(hw:∀a,(cell a).length=w){l:List α}{i:Int}{a b:Nat}{K:D->Prop}{d:D}(k:Nat)(hi:i=k)(h:k<l.length)(hj:(cell l[k])[a+b]?=some d)(hk:K d):zgp (l.flatMap cell) (i.toNat*w+a+b) K:=by
 rw[Nat.add_assoc];exact zgp.rec hw k hi h hj hk
theorem hms(c x:UInt8):[c].length+[x].length<=z4t:=by show 2<=z4t;decide
theorem yr6(ls:List Lmt):ytp ls []:=λw h=>by simp[zd2]at h
section
variable{E:Oracle}(g:Good E)
include g
theorem zrr.serveN{ls:List Lmt}(hls:ls.length<=3)(hc:zj8 ls=0){W:List Wsh}(h:z8z W){n:Nat}{xs:List D}(hn:n=W.length)(hx:xs=W.flatMap Wsh.cells){K:V->Prop}(hk:K (.tup [LRs (z16 ls [] W),I 0])):zrr E zd3 [LLm ls,.d (.list n xs)] K:=by
 subst hn hx;exact zrr.serve g ls hls hc W h hk
theorem zrr.withdrawN{ls:List Lmt}(hls:ls.length<=3)(hc:zj8 ls=0){W:List Wsh}(h:z8z W){rs:List Alr}(hf:ybe W rs){n m:Nat}{xs ys:List D}(hm:m=ls.length)(hy:ys=ls.flatMap Lmt.cells)(hn:n=W.length)(hx:xs=W.flatMap Wsh.cells){K:V->Prop}(hk:K (.tup [LRs (ztn ls [] W rs),I 0])):zrr E zeb [.d (.list m ys),.d (.list n xs),LRs rs] K:=by
 subst hn hx hm hy;exact zrr.withdraw g hls hc h hf hk
theorem zrr.checkN{ls:List Lmt}(hls:ls.length<=3)(hc:zj8 ls=0){W:List Wsh}(h:z8z W){rs:List Alr}(hf:ybe W rs)(hno:ytp ls (zuj W rs)){n m:Nat}{xs ys:List D}(hm:m=ls.length)(hy:ys=ls.flatMap Lmt.cells)(hn:n=W.length)(hx:xs=W.flatMap Wsh.cells){K:V->Prop}(hk:K (I 0)):zrr E zcf [.d (.list m ys),.d (.list n xs),LRs rs] K:=by
 subst hn hx hm hy;exact zrr.check g hls hc h hf hno hk
theorem z0y(hx:ext n_slices_Sort_Lstring_string=some sortXS)(l:List Rqt)(ls:List Lmt)(hls:ls.length<=1048576)(aw:Fc E zfc [] (B true)):Fc E zi4 [LQ l,LLm ls] (B true):=by
 refine g.fn rfl rfl ?_;have tl:=z6w g ls hls;have ta:=ydn g l;cases ht:twL ls with
 | false=>
  rw[ht]at tl
  repeat'((conv=>whnf);first
  | refine Yz ?_
   | (apply zaf.of;assumption)
   | (refine Ret.mk rfl)
   | fail)
 | true=>
  rw[ht]at tl;obtain⟨hl3,hc⟩:=yyu ht;cases ha:yxg l with
  | false=>
   rw[ha]at ta
   repeat'((conv=>whnf);first
   | refine Yz ?_
    | (apply zaf.of;assumption)
    | (refine Ret.mk rfl)
    | fail)
  | true=>
   rw[ha]at ta;have hA:=yuu ha;have hlen:=hA.len
   by_cases h3:3<l.length
   ·repeat'((conv=>whnf);first|refine Yz ?_|(apply zaf.of;assumption)|refine Ret.mk rfl|fail)
   have hmi:∀q∈l,0<=q.mi/\q.mi<=1439:=λq hq=>(zmy (hA.ok q hq)).2.2.2.1
   have hpe:∀q∈l,0<=q.fr/\q.fr<=q.to/\q.to<=99999:=λq hq=>by
    have:=zfl.1 (zmy (hA.ok q hq)).2.2.1;omega
   repeat'((conv=>whnf);first|refine Yz ?_|(apply zaf.of;assumption)|fail)
   refine zab.to (zab.by (σ:=Nat×Int×Int) g (λu=>u.1<=l.length/\(0<=u.2.1/\u.2.1<=99999)/\(0<=u.2.2/\u.2.2<=99999)/\(0<u.1->u.2.1<=u.2.2))
    (λu=>[(0,LQ l),(5,LLm ls),(7,.ref ⟨0,7,0⟩ 0 u.1 u.1),(8,I u.2.1),(9,I u.2.2),(51,LQ l),(52,I l.length),(53,I u.1)]) (λu=>[(⟨0,7,0⟩,.row false zat 18 u.1 (((l.map yml).take u.1).flatMap Wsh.cells))]) (λu=>l.length-u.1) ?_ (0,99999,0) ⟨Nat.zero_le _,by decide,by decide,λh=>absurd h (Nat.lt_irrefl _)⟩) rfl rfl
   rintro⟨k,f,t⟩⟨k1,k2,k3,k4⟩ih;dsimp only at k1 k2 k3 k4⊢
   by_cases hlt:k<l.length
   ·have hlt2:k<(l.map yml).length:=by rw[List.length_map];exact hlt
    have ih:=λf' t'(h:(0<=f'/\f'<=99999)/\(0<=t'/\t'<=99999)/\f'<=t')=>ih (k+1,f',t') ⟨hlt,h.1,h.2.1,λ_=>h.2.2⟩ (by dsimp only;omega)
    dsimp only at ih;rw[ysm Wsh.cells hlt2,List.getElem_map]at ih;have htw:=ygt g l[k] (hmi _ (List.getElem_mem hlt));have hpk:=hpe _ (List.getElem_mem hlt)
    repeat'((conv=>whnf);first|refine Yz ?_|refine za2.rec Rqt.cells_length k rfl hlt ?_|refine zaf.of htw ?_|refine zem.mk ⟨rfl,rfl,rfl,rfl,rfl,rfl,by show(k+1)*192<=_;omega,by omega⟩ ?_|refine zab.to (ih _ _ ?_) rfl rfl|fail)
    all_goals((repeat' split)<;>omega)
   obtain rfl:k=l.length:=by omega
   clear ih;rw[List.take_of_length_le (by rw[List.length_map];exact Nat.le_refl _)]
   by_cases hgap:40<t-f
   ·repeat'((conv=>whnf);first|refine Yz ?_|(apply zaf.of;assumption)|refine Ret.mk rfl|fail)
   have hfl:=λ_:Unit=>zae Lmt.cells 11 Lmt.cells_length ls
   repeat'((conv=>whnf);first|refine Yz ?_|refine zem.mk ⟨rfl,rfl,rfl,rfl,rfl,hfl (),by show(0+ls.length)*112<=_;omega,by omega⟩ ?_|fail)
   have hsl:(zwg ls).length=ls.length:=by rw[zwg,List.length_map]
   refine zab.to (zab.up g (λk=>[(0,LQ l),(5,LLm ls),(7,.ref ⟨0,7,0⟩ 0 l.length l.length),(8,I f),(9,I t),(12,.ref ⟨0,78,0⟩ 0 (0+ls.length) (0+ls.length)),(82,I (0+ls.length:Nat)),(83,I k)])
    (λk=>[(⟨0,7,0⟩,.row false zat 18 l.length ((l.map yml).flatMap Wsh.cells)),(⟨0,78,0⟩,.row true zai 11 (0+ls.length) (((zwg ls).take k++ls.drop k).flatMap Lmt.cells))]) ls.length (λk hk ih=>?_) 0 (Nat.zero_le _)) rfl rfl
   by_cases hlt:k<ls.length
   ·have ih:=ih hlt;have hst:=yth hlt;have hmo:=zhx.1 (zsi hc _ (List.getElem_mem hlt));have hsk:k<((zwg ls).take k++ls.drop k).length:=by rw[List.length_append,List.length_take,List.length_drop];omega
    have hsl2:=λ_:Unit=>zae Lmt.cells 11 Lmt.cells_length ((zwg ls).take k++ls.drop k)
    have hsl3:((zwg ls).take k++ls.drop k).length=ls.length:=by rw[List.length_append,List.length_take,List.length_drop];omega
    have hge:((zwg ls).take k++ls.drop k)[k]=ls[k]:=by
     rw[List.getElem_append_right (by rw[List.length_take];omega),List.getElem_drop];congr 1;rw[List.length_take];omega
    have hpk:∀{K:D->Prop},K (DI ls[k].mo)->zgp (((zwg ls).take k++ls.drop k).flatMap Lmt.cells) ((0+((k:Nat):Int).toNat)*11+10) K:=λh=>zgp.rec0 Lmt.cells_length k rfl hsk (by rw[hge];rfl) h
    generalize(zwg ls).take k++ls.drop k=Y at*
    repeat'((conv=>whnf);first|refine Yz ?_|refine hpk ?_|(refine zem.mk ⟨rfl,by rw[hsl2 (),hsl3];show _+1<=_;omega,rfl⟩ ?_;rw[hst])|refine zab.to ih rfl rfl|fail)
   obtain rfl:k=ls.length:=by omega
   clear ih;rw[List.take_of_length_le (by omega),List.drop_length,List.append_nil];have hW:(l.map yml).length=l.length:=List.length_map ..;have hWat:∀i(h1:i<(l.map yml).length)(h2:i<l.length),(l.map yml)[i]=yml l[i]:=λi h1 h2=>List.getElem_map ..
   generalize hWd:l.map yml=W at*;have hSW:z8z W:=hWd▸yta hA;have hf:=yri ls W;have hR:=hf.len;generalize hRd:z16 ls [] W=R at*;have hf2:=yrj (zwg ls) hf;have hcs:=λ(i:Nat)(h1:i<W.length)(h2:i<R.length)(h3:i<(ztn (zwg ls) [] W R).length)=>yeb (zwg ls) hf h1 h2 h3
   have hno:=yhk (zwg ls) [] W R (yr6 _);rw[List.nil_append]at hno;have hQ:=hf2.len;generalize hQd:ztn (zwg ls) [] W R=Q at*;have hC:=yqb hSW (by omega) hf;have hsc:=ywm hc
   repeat'((conv=>whnf);first|refine Yz ?_|(refine zrr.serveN g hl3 hc hSW (by omega) (by rw[if_pos ⟨rfl,rfl⟩]) ?_;rw[hRd])|(refine zrr.withdrawN g (by omega) hsc hSW hf (by omega) (by rw[if_pos ⟨rfl,rfl⟩]) (by omega) (by rw[if_pos ⟨rfl,rfl⟩]) ?_;rw[hQd])|refine zrr.checkN g (by omega) hsc hSW hf2 hno (by omega) (by rw[if_pos ⟨rfl,rfl⟩]) (by omega) (by rw[if_pos ⟨rfl,rfl⟩]) ?_|fail)
   have hRW:∀i(h1:i<R.length)(h2:i<l.length),tqW W R i=⟨R[i].nm,l[i].fr,l[i].to,R[i].mi,R[i].gr⟩:=λi h1 h2=>by
    rw[zzi (by omega) h1,hWat i (by omega) h2]
    rfl
   refine zab.to (zab.by (σ:=Nat×List Evt) g (λu=>u.1<=R.length/\TwR (tqW W R) u.1 [] f t 0 0 5 u.2)
    (λu=>[(0,LQ l),(7,.ref ⟨0,7,0⟩ 0 l.length l.length),(8,I f),(9,I t),(14,LRs R),(16,LRs Q),(18,.ptr ⟨0,18,1⟩ 0 0),(19,.fn za5 [] [.ptr ⟨0,18,1⟩ 0 0]),(137,LRs R),(138,I R.length),(139,I u.1)])
    (λu=>[(⟨0,7,0⟩,.row false zat 18 l.length (W.flatMap Wsh.cells)),(⟨0,78,0⟩,.row true zai 11 (0+ls.length) ((zwg ls).flatMap Lmt.cells)),(⟨0,18,0⟩,.row false zao 5 u.2.length (u.2.flatMap Evt.cells)),(⟨0,18,1⟩,.cells zjk [.ref ⟨0,18,0⟩ 0 u.2.length u.2.length])]) (λu=>R.length-u.1) ?_ (0,[]) ⟨Nat.zero_le _,TwR.start _ _ _⟩) rfl rfl
   rintro⟨k,L⟩⟨k5,k6⟩ih;dsimp only at k5 k6⊢
   by_cases hlt:k<R.length
   ·have hlk:k<l.length:=by omega
    have hev:evE (tqW W R) L.length k=⟨(L.length:Int)+1,zp0,[tnm 101 k,R[k].nm],[5,l[k].fr,l[k].to,if R[k].gr then R[k].mi else 1440],[]⟩:=by
     unfold evE mnT;rw[hRW k hlt hlk]
    have ih:=ih (k+1,L++[evE (tqW W R) L.length k]) ⟨by dsimp only;omega,k6.enter hC (by omega)⟩ (by dsimp only;omega);dsimp only at ih;rw[hev]at ih;simp only[List.length_append,List.length_cons,List.length_nil,List.flatMap_append,List.flatMap_cons,List.flatMap_nil]at ih;have hll:=k6.len;simp only[List.length_nil]at hll;have hmk:(L.flatMap Evt.cells).length=L.length*5:=zae Evt.cells 5 evw _;have htx:=yap g k (by omega);have hmn:=yas g R[k]
    repeat'((conv=>whnf);first|refine Yz ?_|refine za2.rec Alr.cells_length k rfl hlt ?_|refine zgp.two Rqt.cells_length k rfl hlk rfl ?_|(apply zaf.of;assumption)|refine In.enter (f:=za5) g.lim rfl rfl ?_|refine zem.mk ⟨rfl,rfl,rfl,rfl,rfl,by first|exact hmk|rfl,by dsimp only;omega,by first|omega|(dsimp only;omega)⟩ ?_|refine zem.mk (hms _ _) ?_|refine zem.mk ⟨.inl rfl,rfl,by omega⟩ ?_|refine zem.mk ⟨rfl,by decide⟩ ?_|refine Chk.mk rfl ?_|refine zab.to ih rfl rfl|fail)
   obtain rfl:k=R.length:=by omega
   clear ih;rw[hR]at k6;have k6:=k6.mono (D':=8) (by decide)
   repeat'((conv=>whnf);first|refine Yz ?_|fail)
   refine zab.to (zab.by (σ:=Nat×List Nat×List Evt) g (λu=>u.1<=Q.length/\TwR (tqW W R) W.length u.2.1 f t 0 0 8 u.2.2/\u.2.1.Nodup/\u.2.1.length<=u.1/\(∀i∈u.2.1,i<u.1)/\∀(i:Nat)(h1:i<Q.length)(h2:i<R.length),i<u.1->(i∈u.2.1↔Q[i]≠R[i]))
    (λu=>[(0,LQ l),(7,.ref ⟨0,7,0⟩ 0 l.length l.length),(8,I f),(9,I t),(14,LRs R),(16,LRs Q),(18,.ptr ⟨0,18,1⟩ 0 0),(19,.fn za5 [] [.ptr ⟨0,18,1⟩ 0 0]),(22,.ref ⟨0,22,0⟩ 0 u.2.1.length u.2.1.length),(168,LRs Q),(169,I Q.length),(170,I u.1)])
    (λu=>[(⟨0,7,0⟩,.row false zat 18 l.length (W.flatMap Wsh.cells)),(⟨0,78,0⟩,.row true zai 11 (0+ls.length) ((zwg ls).flatMap Lmt.cells)),(⟨0,18,0⟩,.row false zao 5 u.2.2.length (u.2.2.flatMap Evt.cells)),(⟨0,18,1⟩,.cells zjk [.ref ⟨0,18,0⟩ 0 u.2.2.length u.2.2.length]),(⟨0,22,0⟩,.row false zad 1 u.2.1.length (u.2.1.map λk=>D.str (tnm 114 k)))])
    (λu=>Q.length-u.1) ?_ (0,[],L) ⟨Nat.zero_le _,k6,.nil,Nat.zero_le _,λi h=>absurd h List.not_mem_nil,λi _ _ h=>absurd h (Nat.not_lt_zero _)⟩) rfl rfl
   clear k6;rintro⟨i,b,L⟩⟨m1,m2,m3,m4,m5,m6⟩ih;dsimp only at m1 m2 m3 m4 m5 m6⊢;have hbl:b.length<=3:=by omega
   have hb3:∀k∈b,k<W.length:=λk hk=>by have:=m5 k hk;omega
   have hll:=m2.len
   by_cases hlt:i<Q.length
   ·have hiR:i<R.length:=by omega
    have hil:i<l.length:=by omega
    rcases hcs i (by omega) hiR hlt with he|⟨c1,c2,c3,c4⟩
    ·have ih:=ih (i+1,b,L) ⟨hlt,m2,m3,by dsimp only;omega,λk hk=>by have:=m5 k hk;dsimp only;omega,λk h1 h2 h3=>by
      by_cases hk:k=i
      ·subst hk;exact⟨λh=>absurd (m5 k h) (Nat.lt_irrefl k),λh=>absurd he h⟩
      exact m6 k h1 h2 (by dsimp only at h3;omega)⟩ (by dsimp only;omega)
     dsimp only at ih;have heq:Q[i].nm=R[i].nm/\Q[i].mi=R[i].mi/\Q[i].gr=R[i].gr:=by rw[he];exact⟨rfl,rfl,rfl⟩
     repeat'((conv=>whnf);first|refine Yz ?_|refine za2.rec Alr.cells_length i rfl hlt ?_|refine za2.rec Alr.cells_length i rfl hiR ?_|refine Cmp.tt heq ?_|refine zab.to ih rfl rfl|fail)
    have hnb:i∉b:=λh=>absurd (m5 i h) (Nat.lt_irrefl i)
    have hev:evU (tqW W R) L.length i=⟨(L.length:Int)+1,zue,[tnm 114 i,Q[i].nm],[8,l[i].fr,l[i].to,1440],[]⟩:=by
     unfold evU;rw[hRW i hiR hil,c3]
    have hne:¬(Q[i].nm=R[i].nm/\Q[i].mi=R[i].mi/\Q[i].gr=R[i].gr):=λh=>by
     have:=h.2.2;rw[c1,c2]at this;cases this
    have ih:=ih (i+1,b++[i],L++[evU (tqW W R) L.length i]) ⟨hlt,m2.rule hC (by omega) hnb hb3 hbl,List.pairwise_append.2 ⟨m3,List.pairwise_singleton ..,λa ha c hc=>by rw[List.mem_singleton.1 hc];exact λe=>hnb (e▸ha)⟩,by dsimp only;rw[List.length_append,List.length_singleton];omega,λk hk=>by
     dsimp only
     rcases List.mem_append.1 hk with hk|hk
     ·have:=m5 k hk;omega
     ·rw[List.mem_singleton.1 hk];omega,λk h1 h2 h3=>by
     by_cases hk:k=i
     ·subst hk;exact⟨λ_=>c4,λ_=>by simp⟩
     rw[<-m6 k h1 h2 (by dsimp only at h3;omega)]
     simp[hk]⟩ (by dsimp only;omega)
    dsimp only at ih;rw[hev]at ih;simp only[List.length_append,List.length_cons,List.length_nil,List.flatMap_append,List.flatMap_cons,List.flatMap_nil,List.map_append,List.map_cons,List.map_nil]at ih;have htx:=yap g i (by omega)
    repeat'((conv=>whnf);first|refine Yz ?_|refine za2.rec Alr.cells_length i rfl hlt ?_|refine za2.rec Alr.cells_length i rfl hiR ?_|refine Cmp.ff hne ?_|rw[c1]|refine zgp.rec Alr.cells_length i rfl hiR (congrArg (λb=>some (D.bool b)) c2) ?_|refine zgp.two Rqt.cells_length i rfl hil rfl ?_|(apply zaf.of;assumption)|refine In.enter (f:=za5) g.lim rfl rfl ?_|refine zem.mk ⟨rfl,rfl,rfl,rfl,rfl,rfl,by dsimp only;omega,by first|omega|(dsimp only;omega)⟩ ?_|refine zem.mk (hms _ _) ?_|refine zem.mk ⟨.inl rfl,rfl,by omega⟩ ?_|refine zem.mk ⟨rfl,by decide⟩ ?_|refine Chk.mk rfl ?_|refine zab.to ih rfl rfl|fail)
   obtain rfl:i=Q.length:=by omega
   clear ih;have hbQ:∀(i:Nat)(h1:i<Q.length)(h2:i<R.length),i∈b↔Q[i]≠R[i]:=λi h1 h2=>m6 i h1 h2 h1
   have hndR:∀d,(slL W R d).Pairwise λa b=>a.sr≠b.sr:=λd=>ypo d W R hSW.ok.nd hf.nm
   have hndQ:∀d,(slL W Q d).Pairwise λa b=>a.sr≠b.sr:=λd=>ypo d W Q hSW.ok.nd hf2.nm
   have hall:∀{j k Dk L},TwR (tqW W R) W.length b f t j k Dk L->j<=b.length->L.length<=1000->∀kn:Int,5<=kn->kn<=99999->(∀i∈b,zw6 (rgL L) (ruE (tqW W R) i) kn=false)->∀{n1 n2:Nat}{xs ys:List D},n1=L.length->xs=L.flatMap Evt.cells->n2=W.length->ys=W.flatMap Wsh.cells->Fc E zdz [.d (.list n1 xs),I kn,.d (.list n2 ys),LRs R,I f,I t] (B true):=λht hj hL kn h5 h9 hB _ _ _ _ h1 h2 h3 h4=>by
    subst h1 h2 h3 h4;exact z5o g hx _ hL ht.bd ht.er kn (by omega) W (by omega) R hR f t (by omega) hndR λd Z hz=>ys3 hSW (by omega) hf hb3 hbl ht hj hL h5 hB hz
   have hleft:∀{j k Dk L},TwR (tqW W R) W.length b f t j k Dk L->j<=b.length->L.length<=1000->∀{n1 n2:Nat}{xs ys:List D},n1=L.length->xs=L.flatMap Evt.cells->n2=W.length->ys=W.flatMap Wsh.cells->Fc E zdz [.d (.list n1 xs),I 8,.d (.list n2 ys),LRs Q,I f,I t] (B true):=λht hj hL _ _ _ _ h1 h2 h3 h4=>by
    subst h1 h2 h3 h4;refine z5o g hx _ hL ht.bd ht.er 8 (by decide) W (by omega) Q hQ f t (by omega) hndQ λd Z hz=>?_
    subst hQd;exact yph hSW (by omega) hf hb3 hbl ht hj hL (zwg ls) hbQ hz
   have p7:=@hall 0 0 8 L m2 (Nat.zero_le _) (by omega) 7 (by decide) (by decide) λi _=>ye6 (show(7:Int)<8 by decide)
   have p8:=@hleft 0 0 8 L m2 (Nat.zero_le _) (by omega)
   repeat'((conv=>whnf);first|refine Yz ?_|refine zaf.of (p7 (by omega) (by rw[if_pos ⟨rfl,rfl⟩]) (by omega) (by rw[if_pos ⟨rfl,rfl⟩])) ?_|refine zaf.of (p8 (by omega) (by rw[if_pos ⟨rfl,rfl⟩]) (by omega) (by rw[if_pos ⟨rfl,rfl⟩])) ?_|fail)
   clear p7 p8;have hgb:∀j(h:j<b.length),b.getD j 0=b[j]:=λj h=>by simp[List.getD,h]
   have hpk:∀(j:Nat)(h:j<b.length){K:D->Prop},K (.str (tnm 114 b[j]))->zgp (b.map λk=>D.str (tnm 114 k)) ((0+((j:Nat):Int).toNat)*1) K:=λj h K hk=>⟨⟨_,by rw[Nat.zero_add,Int.toNat_natCast,Nat.mul_one,List.getElem?_map,List.getElem?_eq_getElem h];rfl,hk⟩⟩
   refine zab.to (zab.by (σ:=Nat×List Evt) g (λu=>u.1<=b.length/\TwR (tqW W R) W.length b f t u.1 0 9 u.2)
    (λu=>[(7,.ref ⟨0,7,0⟩ 0 l.length l.length),(8,I f),(9,I t),(14,LRs R),(16,LRs Q),(18,.ptr ⟨0,18,1⟩ 0 0),(19,.fn za5 [] [.ptr ⟨0,18,1⟩ 0 0]),(22,.ref ⟨0,22,0⟩ 0 b.length b.length),(235,.ref ⟨0,22,0⟩ 0 b.length b.length),(236,I b.length),(237,I u.1)])
    (λu=>[(⟨0,7,0⟩,.row false zat 18 l.length (W.flatMap Wsh.cells)),(⟨0,78,0⟩,.row true zai 11 (0+ls.length) ((zwg ls).flatMap Lmt.cells)),(⟨0,18,0⟩,.row false zao 5 u.2.length (u.2.flatMap Evt.cells)),(⟨0,18,1⟩,.cells zjk [.ref ⟨0,18,0⟩ 0 u.2.length u.2.length]),(⟨0,22,0⟩,.row false zad 1 b.length (b.map λk=>D.str (tnm 114 k)))])
    (λu=>b.length-u.1) ?_ (0,L) ⟨Nat.zero_le _,m2.mono (by decide)⟩) rfl rfl
   clear m2 hll;rintro⟨j,L⟩⟨n1,n2⟩ih;dsimp only at n1 n2⊢;have hll:=n2.len
   by_cases hlt:j<b.length
   ·have hev:evY f t b L.length j=⟨(L.length:Int)+1,zdg,[tnm 102 j,sZz,tnm 114 b[j]],[9,f,t,700],[]⟩:=by
     unfold evY;rw[hgb j hlt]
    have h0l:0<l.length:=by have:=hb3 _ (List.getElem_mem hlt);omega
    have ih:=ih (j+1,L++[evY f t b L.length j]) ⟨hlt,n2.follow hC hlt hb3 hbl ⟨k2.1,k4 h0l,k3.2⟩⟩ (by dsimp only;omega);dsimp only at ih;rw[hev]at ih;simp only[List.length_append,List.length_cons,List.length_nil,List.flatMap_append,List.flatMap_cons,List.flatMap_nil]at ih;have htx:=yap g j (by omega);have hpj:=@hpk j hlt
    repeat'((conv=>whnf);first|refine Yz ?_|refine hpj ?_|(apply zaf.of;assumption)|refine In.enter (f:=za5) g.lim rfl rfl ?_|refine zem.mk ⟨rfl,rfl,rfl,rfl,rfl,rfl,by dsimp only;omega,by first|omega|(dsimp only;omega)⟩ ?_|refine zem.mk (hms _ _) ?_|refine zem.mk ⟨.inl rfl,rfl,by omega⟩ ?_|refine zem.mk ⟨rfl,by decide⟩ ?_|refine Chk.mk rfl ?_|refine zab.to ih rfl rfl|fail)
   obtain rfl:j=b.length:=by omega
   clear ih
   repeat'((conv=>whnf);first|refine Yz ?_|fail)
   refine zab.to (zab.up g (λj=>[(7,.ref ⟨0,7,0⟩ 0 l.length l.length),(8,I f),(9,I t),(14,LRs R),(16,LRs Q),(18,.ptr ⟨0,18,1⟩ 0 0),(19,.fn za5 [] [.ptr ⟨0,18,1⟩ 0 0]),(22,.ref ⟨0,22,0⟩ 0 b.length b.length),(253,.ref ⟨0,22,0⟩ 0 b.length b.length),(254,I b.length),(255,I j)])
    (λ_=>[(⟨0,7,0⟩,.row false zat 18 l.length (W.flatMap Wsh.cells)),(⟨0,78,0⟩,.row true zai 11 (0+ls.length) ((zwg ls).flatMap Lmt.cells)),(⟨0,18,0⟩,.row false zao 5 L.length (L.flatMap Evt.cells)),(⟨0,18,1⟩,.cells zjk [.ref ⟨0,18,0⟩ 0 L.length L.length]),(⟨0,22,0⟩,.row false zad 1 b.length (b.map λk=>D.str (tnm 114 k)))]) b.length (λj hj ih=>?_) 0 (Nat.zero_le _)) rfl rfl
   by_cases hlt:j<b.length
   ·have ih:=ih hlt;have hpj:=@hpk j hlt;have hbj:=hb3 _ (List.getElem_mem hlt);obtain⟨r1,r2⟩:=n2.rests (by omega) (by omega) hb3 hbl m3 hlt;have pR:=yo7 g L (by omega) (λe he=>by have:=n2.bd e he;omega) (tnm 114 b[j]);have hnm:zcd (tnm 114 b[j])=true:=zvg (.inr (.inl rfl)) (by omega)
    have her:erR L (tnm 114 b[j])=0:=by
     unfold erR;rw[n2.er,hnm]
     rfl
    rw[her,if_pos rfl,if_pos rfl,if_neg (by omega),if_neg (by omega)]at pR;have pR:∀{n1:Nat}{xs:List D},n1=L.length->xs=L.flatMap Evt.cells->Fc E zki [.d (.list n1 xs),S (tnm 114 b[j])] (.tup [Ws (yub (rgL L) (tnm 114 b[j])),I 0]):=λh1 h2=>by subst h1 h2;exact pR
    generalize yub (rgL L) (tnm 114 b[j])=rs at*
    repeat'((conv=>whnf);first|refine Yz ?_|refine hpj ?_|refine zaf.of (pR (by omega) (by rw[if_pos ⟨rfl,rfl⟩])) ?_|refine zab.to ih rfl rfl|fail)
   obtain rfl:j=b.length:=by omega
   clear ih
   repeat'((conv=>whnf);first|refine Yz ?_|fail)
   refine zab.to (zab.by (σ:=Nat×List Evt) g (λu=>u.1<=b.length/\TwR (tqW W R) W.length b f t b.length u.1 12 u.2)
    (λu=>[(7,.ref ⟨0,7,0⟩ 0 l.length l.length),(8,I f),(9,I t),(14,LRs R),(16,LRs Q),(18,.ptr ⟨0,18,1⟩ 0 0),(19,.fn za5 [] [.ptr ⟨0,18,1⟩ 0 0]),(273,.ref ⟨0,22,0⟩ 0 b.length b.length),(274,I b.length),(275,I u.1)])
    (λu=>[(⟨0,7,0⟩,.row false zat 18 l.length (W.flatMap Wsh.cells)),(⟨0,78,0⟩,.row true zai 11 (0+ls.length) ((zwg ls).flatMap Lmt.cells)),(⟨0,18,0⟩,.row false zao 5 u.2.length (u.2.flatMap Evt.cells)),(⟨0,18,1⟩,.cells zjk [.ref ⟨0,18,0⟩ 0 u.2.length u.2.length]),(⟨0,22,0⟩,.row false zad 1 b.length (b.map λk=>D.str (tnm 114 k)))])
    (λu=>b.length-u.1) ?_ (0,L) ⟨Nat.zero_le _,n2.mono (by decide)⟩) rfl rfl
   clear n2 hll;rintro⟨j,L⟩⟨n1,n2⟩ih;dsimp only at n1 n2⊢;have hll:=n2.len
   by_cases hlt:j<b.length
   ·have hev:evX b L.length j=⟨(L.length:Int)+1,zeo,[tnm 114 b[j]],[12],[]⟩:=by
     unfold evX;rw[hgb j hlt]
    have ih:=ih (j+1,L++[evX b L.length j]) ⟨hlt,n2.rev hC hlt m3 hb3 hbl⟩ (by dsimp only;omega);dsimp only at ih;rw[hev]at ih;simp only[List.length_append,List.length_cons,List.length_nil,List.flatMap_append,List.flatMap_cons,List.flatMap_nil]at ih;have hpj:=@hpk j hlt
    repeat'((conv=>whnf);first|refine Yz ?_|refine hpj ?_|refine In.enter (f:=za5) g.lim rfl rfl ?_|refine zem.mk ⟨rfl,rfl,rfl,rfl,rfl,rfl,by dsimp only;omega,by first|omega|(dsimp only;omega)⟩ ?_|refine zem.mk (hms _ _) ?_|refine zem.mk ⟨.inl rfl,rfl,by omega⟩ ?_|refine zem.mk ⟨rfl,by decide⟩ ?_|refine Chk.mk rfl ?_|refine zab.to ih rfl rfl|fail)
   obtain rfl:j=b.length:=by omega
   clear ih;have p12:=@hall _ _ _ L n2 (Nat.le_refl _) (by omega) 12 (by decide) (by decide) λi hi=>n2.offB (by omega) 12 (by decide) hi
   have p8:=@hleft _ _ _ L n2 (Nat.le_refl _) (by omega);have p6:=@hall _ _ _ L n2 (Nat.le_refl _) (by omega) 6 (by decide) (by decide) λi _=>ye6 (show(6:Int)<8 by decide)
   repeat'((conv=>whnf);first|refine Yz ?_|refine zaf.of (p12 (by omega) (by rw[if_pos ⟨rfl,rfl⟩]) (by omega) (by rw[if_pos ⟨rfl,rfl⟩])) ?_|refine zaf.of (p8 (by omega) (by rw[if_pos ⟨rfl,rfl⟩]) (by omega) (by rw[if_pos ⟨rfl,rfl⟩])) ?_|refine zaf.of (p6 (by omega) (by rw[if_pos ⟨rfl,rfl⟩]) (by omega) (by rw[if_pos ⟨rfl,rfl⟩])) ?_|(apply zaf.of;assumption)|refine Ret.mk rfl|fail)
end
theorem ylm{E:Oracle}(g:Good E){xs:List D}(h:z9t Tryz.prog [22,23] xs)(hb:zl7 1048576 xs):Fc E zi4 (asV xs) (B true):=by
 obtain⟨x,y,rfl,h1,h2⟩:=yzk h;obtain⟨l,rfl⟩:=ybi h1;obtain⟨ls,rfl⟩:=yeq h2;exact z0y g rfl l ls hb.2.1.1 (ywd g)
end Go.Proofs.YtkflcbhclegghaaGreatDoor.Co
