/-
  TopTowerServed returns true, for every argument: the law, and the last part of what it leans on.
-/
import Derived.Laws.RangeAny
import Derived.Lib.SplitLaws
import Derived.Test.YtkgcnknhkobmjaaGreatDoorEvX
import Derived.Test.YtkgcnknhkobmjaaGreatDoorRead
import Derived.Test.YtkgcnknhkobmjaaGreatDoorSpBase
import Derived.Test.YtkgcnknhkobmjaaGreatDoorTsm
namespace Go.Proofs.YtkgcnknhkobmjaaGreatDoor.Co
open Go Go.Evl
set_option maxHeartbeats 32000000
set_option maxRecDepth 100000
theorem yug {ls:List Lmt} (h:twL ls=true):ls.length<=3/\zqm ls=0:=by
 unfold twL at h
 simp only [Bool.and_eq_true,decide_eq_true_eq] at h
 exact⟨h.1,h.2.2⟩
theorem z78 {α:Type} (cell:α->List D) {l:List α} {k:Nat} (h:k<l.length):(l.take (k+1)).flatMap cell=(l.take k).flatMap cell++cell l[k]:=yhj cell l k h
theorem yhi {α:Type} (cell:α->List D) (w:Nat) (hw:∀a,(cell a).length=w) (l:List α) (k j:Nat) (hk:k<l.length) (ds:List D) (hj:j+ds.length<=w) (x:α) (hx:cell x=patch (cell l[k]) j ds):patch (l.flatMap cell) (k*w+j) ds=(l.set k x).flatMap cell:=by
 have h1:l=l.take k++l[k]::l.drop (k+1):=by rw [<-List.drop_eq_getElem_cons hk,List.take_append_drop]
 have h2:l.set k x=l.take k++x::l.drop (k+1):=by
  rw [List.set_eq_take_append_cons_drop,if_pos hk]
 rw [h2,List.flatMap_append,List.flatMap_cons,hx]
 have h3:l.flatMap cell=(l.take k).flatMap cell++(cell l[k]++(l.drop (k+1)).flatMap cell):=by
  rw [<-List.flatMap_cons,<-List.flatMap_append]
  exact congrArg (List.flatMap cell) h1
 rw [h3]
 have h4:((l.take k).flatMap cell).length=k*w:=by
  rw [zah cell w hw,List.length_take,Nat.min_eq_left (by omega)]
 have h5:=hw l[k]
 generalize (l.take k).flatMap cell=A at *
 generalize (l.drop (k+1)).flatMap cell=C at *
 generalize cell l[k]=B at *
 unfold patch
 rw [<-h4,List.take_append,List.take_of_length_le (by omega),Nat.add_sub_cancel_left,List.take_append_of_le_length (by omega)]
 rw [List.drop_append,List.drop_of_length_le (by omega),Nat.add_assoc,Nat.add_sub_cancel_left,List.drop_append_of_le_length (by omega)]
 simp
theorem yng {l:List Rqt} {W:List Wsh} (hW:l.map zuy=W) (k:Nat) (m:Int) (i:Nat) (hi:i<l.length):
  patch (((ztx l k m).take i++W.drop i).flatMap Wsh.cells) ((0+((i:Nat):Int).toNat)*18+0) ((zk4 l k m)[i]'(by rw [zcg];exact hi)).cells=((ztx l k m).take (i+1)++W.drop (i+1)).flatMap Wsh.cells:=by
 have hWl:W.length=l.length:=by rw [<-hW,List.length_map]
 have hal:=zfv l k m
 have hti:((ztx l k m).take i).length=i:=by rw [List.length_take];omega
 have hlen:i<((ztx l k m).take i++W.drop i).length:=by rw [List.length_append,List.length_drop,hti];omega
 have hWi:W[i]'(by omega)=zuy l[i]:=by subst hW;rw [List.getElem_map]
 have hget:((ztx l k m).take i++W.drop i)[i]=zuy l[i]:=by
  rw [List.getElem_append_right (by omega)]
  simp only [hti,Nat.sub_self,List.getElem_drop,Nat.add_zero,hWi]
 rw [Nat.zero_add,Int.toNat_natCast,yhi Wsh.cells 18 Wsh.cells_length _ i 0 hlen _ (by show 0+13<=18;omega) ((ztx l k m)[i]'(by omega)) (by rw [hget,z6o m i hi];rfl)]
 congr 1
 rw [List.set_append_right _ _ (by omega),hti,Nat.sub_self,List.drop_eq_getElem_cons (show i<W.length by omega),List.set_cons_zero,show (ztx l k m).take (i+1)=(ztx l k m).take i++[(ztx l k m)[i]'(by omega)] from by rw [List.take_add_one,List.getElem?_eq_getElem (show i<(ztx l k m).length by omega)];rfl,List.append_assoc]
 rfl
abbrev tsM (ky hs:Int) (l B:List Rqt) (n:Nat) (ws:List D) (i:Nat) (lx:List D):Mem:=[(⟨0,5,0⟩,.cells zei [.d (.int .u16 ky),.d (.int .u8 hs)]),(⟨0,9,0⟩,.row true zau 18 n ws),(⟨0,19,0⟩,.row false zct 3 n ((zyz l).flatMap Rst.cells)),(⟨0,172,0⟩,.row false zag 13 (0+n) ([]++l.flatMap Rqt.cells)),(⟨0,21,0⟩,.cells zab [.d (.str ANS),.d (.str twH),.d (.str twS),.d (DI 9),.d (.list n (l.flatMap fun q=>Lnt.cells ⟨[75],q⟩))]),(⟨0,217,0⟩,.row true zag 13 (0+n) (B.flatMap Rqt.cells)),(⟨0,230,0⟩,.row false zag 13 (0+n) ([]++l.flatMap Rqt.cells)),(⟨0,233,0⟩,.row false zag 13 (0+(0+n)) ([]++B.flatMap Rqt.cells)),(⟨0,251,0⟩,.row false zac 14 i lx),(⟨0,28,0⟩,.row false zac 14 0 []),(⟨0,28,1⟩,.cells zab [S REQ,S twH,S twS,I 5,.ref ⟨0,251,0⟩ 0 i i])]
section
variable {E : Oracle} (g : Good E)
include g
theorem z3t.serveN {ls:List Lmt} (hls:ls.length<=3) (hc:zqm ls=0) {W:List Wsh} (h:ym0 W) {n:Nat} {xs:List D} (hn:n=W.length) (hx:xs=W.flatMap Wsh.cells) {K:V->Prop} (hk:K (.tup [.d (.list n ((zk0 ls [] W).flatMap Alr.cells)),I 0])):z3t E zbu [LLm ls,.d (.list n xs)] K:=by
 subst hn hx
 refine z3t.serve g ls hls hc W h ?_
 rw [<-zhk ls [] W] at hk
 exact hk
theorem zz6 (l:List Rqt) (ls:List Lmt) (ky hs:Int) (hky:0<=ky/\ky<=65535) (hls:ls.length<=1048576) (aw:Fc E zgo [] (B true)):Fc E zh6 [LQ l,LLm ls,.d (.agg [.int .u16 ky,.int .u8 hs])] (B true):=by
 refine g.fn rfl rfl ?_
 have tl:=z4r g ls hls
 have ta:=yar g l
 cases ht:twL ls with
 | false=>
  rw [ht] at tl
  repeat' ((conv=>whnf);first
  | refine Yz ?_
   | (apply zae.of;assumption)
   | (refine Ret.mk rfl)
   | fail)
 | true=>
  rw [ht] at tl
  obtain⟨hl3,hc⟩:=yug ht
  cases ha:ytc l with
  | false=>
   rw [ha] at ta
   repeat' ((conv=>whnf);first
   | refine Yz ?_
    | (apply zae.of;assumption)
    | (refine Ret.mk rfl)
    | fail)
  | true=>
   rw [ha] at ta
   have hA:=yq0 ha
   have hlen:=hA.len
   by_cases h0:l.length=0
   ·repeat' ((conv=>whnf);first
   | refine Yz ?_
     | (apply zae.of;assumption)
     | (refine Ret.mk rfl)
     | fail)
   ·have hmi:∀q∈l,0<=q.mi/\q.mi<=1439:=fun q hq=>(zjd (hA.ok q hq)).2.2.2.1
    repeat' ((conv=>whnf);first
    | refine Yz ?_
     | (apply zae.of;assumption)
     | fail)
    refine zaf.to (zaf.up g (fun k=>[(0,LQ l),(5,.ptr ⟨0,5,0⟩ 0 0),(7,LLm ls),(9,.ref ⟨0,9,0⟩ 0 k k),(56,LQ l),(57,I l.length),(58,I k)]) (fun k=>[(⟨0,5,0⟩,.cells zei [.d (.int .u16 ky),.d (.int .u8 hs)]),(⟨0,9,0⟩,.row true zau 18 k (((l.map zuy).take k).flatMap Wsh.cells))]) l.length (fun k hk ih=> ?_) 0 (Nat.zero_le _)) rfl rfl
    by_cases hlt:k<l.length
    ·have ih:=ih hlt
     have hlt2:k<(l.map zuy).length:=by rw [List.length_map];exact hlt
     rw [z78 Wsh.cells hlt2,List.getElem_map] at ih
     have htw:=ydr g l[k] (hmi _ (List.getElem_mem hlt))
     repeat' ((conv=>whnf);first
     | refine Yz ?_
      | (refine zal.rec Rqt.cells_length k rfl hlt ?_)
      | (refine zae.of htw ?_)
      | (refine ze8.mk ⟨rfl,rfl,rfl,rfl,rfl,rfl,by show (k+1)*192<=_;omega,by omega⟩ ?_)
      | (refine zaf.to ih rfl rfl)
      | fail)
    ·obtain rfl:k=l.length:=by omega
     clear ih
     rw [List.take_of_length_le (by rw [List.length_map];exact Nat.le_refl _)]
     have hlp:(0:Int)<(l.length:Nat):=by omega
     have hk0:=Int.emod_nonneg ky (show ((l.length:Nat):Int)≠0 by omega)
     have hk1:=Int.emod_lt_of_pos ky hlp
     obtain⟨k,hkk⟩:∃k:Nat,ky%((l.length:Nat):Int)=k:=⟨(ky%((l.length:Nat):Int)).toNat,by omega⟩
     rw [hkk] at hk0 hk1
     have hkl:k<l.length:=by omega
     have hW:(l.map zuy).length=l.length:=List.length_map ..
     generalize hWd:l.map zuy=W at *
     have hSW:ym0 W:=hWd▸ypr hA
     have hwt:=ybe Wsh.cells 18 Wsh.cells_length W k (by omega)
     repeat' ((conv=>whnf);first
     | refine Yz ?_
      | (refine z3t.serveN g hl3 hc hSW (by omega) (by rw [if_pos ⟨rfl,rfl⟩]) ?_)
      | (rw [hkk])
      | (refine zff.at 0 k rfl rfl (by omega) ?_)
      | (refine z3t.serveN g hl3 hc (hSW.take k) (by rw [List.length_take];omega) (by rw [if_neg (by omega)];exact hwt) ?_)
      | (refine z3t.serveN g (ls:=[]) (by decide) rfl hSW (by omega) (by rw [if_pos ⟨rfl,rfl⟩]) ?_)
      | fail)
     have hfr:zk0 [] [] W=l.map fun q=>(⟨q.nm,q.mi,true⟩:Alr):=by
      rw [ya9,<-hWd,List.map_map]
      rfl
     rw [yba,hfr,List.flatMap_map]
     have hal:(zk0 ls [] W).length=l.length:=by rw [zhk,hW]
     generalize hald:zk0 ls [] W=al at *
     have hff:(zyz l).length=l.length:=by unfold zyz;rw [List.length_map]
     refine zaf.to (zaf.up g (fun i=>[(0,LQ l),(7,LLm ls),(9,.ref ⟨0,9,0⟩ 0 l.length l.length),(12,.d (.list l.length (al.flatMap Alr.cells))),(14,I k),(15,.d (.list (k-0) ((al.take k).flatMap Alr.cells))),(17,.d (.list l.length (l.flatMap fun q=>Alr.cells ⟨q.nm,q.mi,true⟩))),(19,.ref ⟨0,19,0⟩ 0 i i),(120,I l.length),(121,I i)])
      (fun i=>[(⟨0,5,0⟩,.cells zei [.d (.int .u16 ky),.d (.int .u8 hs)]),(⟨0,9,0⟩,.row true zau 18 l.length (W.flatMap Wsh.cells)),(⟨0,19,0⟩,.row false zct 3 i (((zyz l).take i).flatMap Rst.cells))]) l.length (fun i hi ih=> ?_) 0 (Nat.zero_le _)) rfl rfl
     by_cases hlt:i<l.length
     ·have ih:=ih hlt
      rw [z78 Rst.cells (by omega:i<(zyz l).length)] at ih
      have efr:(zyz l)[i]'(by omega)=⟨l[i].nm,true,l[i].mi⟩:=by unfold zyz;rw [List.getElem_map]
      rw [efr] at ih
      by_cases hik:i<k
      ·have hit:i<(al.take k).length:=by rw [List.length_take];omega
       have hia:i<al.length:=by omega
       have hp:(al.take k)[i].nm=al[i].nm/\(al.take k)[i].mi=al[i].mi/\(al.take k)[i].gr=al[i].gr:=by
        rw [List.getElem_take];exact⟨rfl,rfl,rfl⟩
       generalize (zyz l).take i=A at *
       repeat' ((conv=>whnf);first
       | refine Yz ?_
        | (refine zal.rec Alr.cells_length i rfl hit ?_)
        | (refine zal.rec Alr.cells_length i rfl hia ?_)
        | (refine zal.rec (cell:=fun q:Rqt=>Alr.cells ⟨q.nm,q.mi,true⟩) (fun _=>rfl) i rfl hlt ?_)
        | (refine Cmp.tt hp ?_)
        | (refine zg4.rec Rqt.cells_length i rfl hlt rfl ?_)
        | (refine zg4.rec (cell:=fun q:Rqt=>Alr.cells ⟨q.nm,q.mi,true⟩) (w:=3) (fun _=>rfl) i rfl hlt rfl ?_)
        | (refine Cmp.tt ⟨rfl,rfl,rfl⟩ ?_)
        | (refine ze8.mk ⟨rfl,rfl,rfl,rfl,rfl,rfl,by show (i+1)*32<=_;omega,by omega⟩ ?_)
        | (refine zaf.to ih rfl rfl)
        | fail)
      ·generalize (zyz l).take i=A at *
       repeat' ((conv=>whnf);first
       | refine Yz ?_
        | (refine zal.rec (cell:=fun q:Rqt=>Alr.cells ⟨q.nm,q.mi,true⟩) (fun _=>rfl) i rfl hlt ?_)
        | (refine zg4.rec Rqt.cells_length i rfl hlt rfl ?_)
        | (refine zg4.rec (cell:=fun q:Rqt=>Alr.cells ⟨q.nm,q.mi,true⟩) (w:=3) (fun _=>rfl) i rfl hlt rfl ?_)
        | (refine Cmp.tt ⟨rfl,rfl,rfl⟩ ?_)
        | (refine ze8.mk ⟨rfl,rfl,rfl,rfl,rfl,rfl,by show (i+1)*32<=_;omega,by omega⟩ ?_)
        | (refine zaf.to ih rfl rfl)
        | fail)
     ·obtain rfl:i=l.length:=by omega
      clear ih
      rw [show (zyz l).take l.length=zyz l from List.take_of_length_le (by omega)]
      obtain⟨b1,b2⟩:=yti hA
      have q1:=ylr g twH twS 9 l (zyz l) (by omega) (by omega)
      rw [if_pos b1,b2] at q1
      have hfq:=fun _:Unit=>zah Rqt.cells 13 Rqt.cells_length l
      have q1:∀ {n:Nat} {xs ys:List D},n=l.length->xs=l.flatMap Rqt.cells->ys=(zyz l).flatMap Rst.cells->Fc E zhr [S twH,S twS,I 9,.d (.list n xs),.d (.list l.length ys)] (.tup [.d (.agg [.str ANS,.str twH,.str twS,DI 9,.list l.length (l.flatMap fun q=>Lnt.cells ⟨[75],q⟩)]),I 0]):=fun hn hx hy=>by
       subst hn hx hy
       have:=q1
       unfold Msv Mst.cells LR at this
       simp only [List.length_map,List.flatMap_map,hff] at this
       exact this
      repeat' ((conv=>whnf);first
      | refine Yz ?_
       | (refine ze8.mk ⟨rfl,rfl,rfl,rfl,rfl,hfq (),by show (0+l.length)*152<=_;omega,by omega⟩ ?_)
       | (refine zae.of (q1 (by omega) (by rw [if_pos ⟨rfl,rfl⟩];rfl) (by rw [if_pos ⟨rfl,rfl⟩])) ?_)
       | fail)
      refine zaf.to (zaf.up g (fun i=>[(0,LQ l),(7,LLm ls),(9,.ref ⟨0,9,0⟩ 0 l.length l.length),(12,.d (.list l.length (al.flatMap Alr.cells))),(14,I k),(190,.d (.list l.length (l.flatMap fun q=>Lnt.cells ⟨[75],q⟩))),(191,I l.length),(192,I i)])
       (fun _=>[(⟨0,5,0⟩,.cells zei [.d (.int .u16 ky),.d (.int .u8 hs)]),(⟨0,9,0⟩,.row true zau 18 l.length (W.flatMap Wsh.cells)),(⟨0,19,0⟩,.row false zct 3 l.length ((zyz l).flatMap Rst.cells)),(⟨0,172,0⟩,.row false zag 13 (0+l.length) ([]++l.flatMap Rqt.cells)),(⟨0,21,0⟩,.cells zab [.d (.str ANS),.d (.str twH),.d (.str twS),.d (DI 9),.d (.list l.length (l.flatMap fun q=>Lnt.cells ⟨[75],q⟩))])]) l.length (fun i hi ih=> ?_) 0 (Nat.zero_le _)) rfl rfl
      by_cases hlt:i<l.length
      ·have ih:=ih hlt
       clear q1 hfq
       repeat' ((conv=>whnf);first
       | refine Yz ?_
        | (refine zal.rec (cell:=fun q:Rqt=>Lnt.cells ⟨[75],q⟩) (w:=14) (fun _=>rfl) i rfl hlt ?_)
        | (refine zal.rec Rqt.cells_length i rfl hlt ?_)
        | (refine Cmp.tt ⟨rfl,rfl,rfl,rfl,rfl,rfl,rfl,rfl,rfl,rfl,rfl,rfl,rfl⟩ ?_)
        | (refine Cmp.tt rfl ?_)
        | (refine zaf.to ih rfl rfl)
        | fail)
      ·obtain rfl:i=l.length:=by omega
       clear ih q1
       have hka:k<al.length:=by omega
       cases hg:al[k].gr with
       | false=>
        repeat' ((conv=>whnf);first
        | refine Yz ?_
         | (refine zg4.rec Alr.cells_length k rfl hka (congrArg (fun b=>some (D.bool b)) hg) ?_)
         | (apply zae.of;assumption)
         | (refine Ret.mk rfl)
         | fail)
       | true=>
        have hmk:=(yeb ls [] W k (by omega) (by rw [hald];omega)).2 (by simp only [hald];exact hg)
        simp only [hald] at hmk
        have hWk:W[k]'(by omega)=zuy l[k]:=by subst hWd;rw [List.getElem_map]
        rw [hWk] at hmk
        have hmr:=zx9 (z2s hA (List.getElem_mem hkl)) hmk
        have hB:=ybn hA hkl hmr
        have hpt:patch ([]++l.flatMap Rqt.cells) ((0+((k:Nat):Int).toNat)*13+9) [DI al[k].mi]=(zk4 l k al[k].mi).flatMap Rqt.cells:=by
         rw [z6n hkl,List.nil_append,Nat.zero_add,Int.toNat_natCast]
         exact z16 Rqt.cells 13 Rqt.cells_length l k 9 hkl (by decide) (DI al[k].mi) (ycw l[k] al[k].mi) rfl
        have hco:=yb3 hA.nd hkl al[k].mi
        obtain⟨L,hL1,hL2⟩:=yqv hA hkl hmr
        have hsag:=ynf hA hkl hmk
        have hal2:=zcg l k al[k].mi
        have q2:=(yls g l (zk4 l k al[k].mi) (by omega) (by omega)).2 (by rw [hA.chk,hB.chk];rfl)
        have hcl:(z3r l (zk4 l k al[k].mi)).length=0\/(z3r l (zk4 l k al[k].mi)).length=2:=by
         rw [hco]
         split
         ·exact .inl rfl
         ·exact .inr rfl
        rw [if_neg (by omega)] at q2
        have q2:∀ {n1 n2:Nat} {xs ys:List D},n1=l.length->xs=l.flatMap Rqt.cells->n2=l.length->ys=(zk4 l k al[k].mi).flatMap Rqt.cells->Fc E zfo [.d (.list n1 xs),.d (.list n2 ys)] (.tup [LL (z3r l (zk4 l k al[k].mi)),I 0]):=fun h1 h2 h3 h4=>by
         subst h1 h2 h3 h4
         have:=q2
         unfold LQ at this
         rw [hal2] at this
         exact this
        have hfa:=fun _:Unit=>zah Rqt.cells 13 Rqt.cells_length (zk4 l k al[k].mi)
        have q3:=yh6 g [agA l,agB l (zk4 l k al[k].mi)] (by simp) (fun m hm=>by
         simp only [List.mem_cons,List.not_mem_nil,or_false] at hm
         rcases hm with rfl|rfl
         ·show (l.map yi5).length<=1000000;rw [List.length_map];omega
         ·show (z3r l (zk4 l k al[k].mi)).length<=1000000;omega)
        rw [hL1] at q3
        have q3:Fc E zgy [.d (.list 2 [.str REQ,.str twH,.str twS,DI 5,.list l.length (l.flatMap fun x=>(yi5 x).cells),.str REQ,.str twH,.str twS,DI 6,.list (z3r l (zk4 l k al[k].mi)).length ((z3r l (zk4 l k al[k].mi)).flatMap Lnt.cells)])] (.tup [LE L,I 0,I 0]):=by
         have e1:(l.map yi5).length=l.length:=List.length_map ..
         have e2:(l.map yi5).flatMap Lnt.cells=l.flatMap fun x=>(yi5 x).cells:=by rw [List.flatMap_map]
         have:=q3
         unfold LMs agA agB Mst.cells at this
         simp only [List.flatMap_cons,List.flatMap_nil,e1,e2] at this
         exact this
        have hLl:L.length=l.length:=by rw [<-hal2,<-hL2,List.length_map]
        have hLa:∀(i:Nat) (hi:i<L.length),L[i].rq=(zk4 l k al[k].mi)[i]'(by omega):=fun i hi=>by
         have h1:(L.map (·.rq))[i]'(by rw [List.length_map];exact hi)=(zk4 l k al[k].mi)[i]'(by omega):=by simp only [hL2]
         rw [<-h1,List.getElem_map]
        have hag:=zfv l k al[k].mi
        have hst:=fun(i:Nat) (hi:i<l.length)=>yng (W:=W) hWd k al[k].mi i hi
        have hagn:=fun(i:Nat) (hi:i<=k)=>yir ls hkl (by rw [zhk,List.length_map];exact hkl) (by simp only [hWd,hald];exact hg) i hi
        simp only [hWd,hald] at hagn
        clear hco
        generalize z3r l (zk4 l k al[k].mi)=C at *
        rcases hcl with hcl|hcl
        all_goals
         repeat' ((conv=>whnf);first
         | refine Yz ?_
          | (refine zg4.rec Alr.cells_length k rfl hka (congrArg (fun b=>some (D.bool b)) hg) ?_)
          | (refine zg4.rec Alr.cells_length k rfl hka rfl ?_)
          | (refine ze8.mk ⟨rfl,rfl,rfl,rfl,rfl,hfq (),by show (0+l.length)*152<=_;omega,by omega⟩ ?_)
          | (refine ze8.mk ⟨rfl,by rw [List.nil_append,hfq ()];omega,rfl⟩ ?_;rw [hpt])
          | (refine zae.of (q2 (by omega) (by rw [if_pos ⟨rfl,rfl⟩];rfl) (by omega) (by rw [if_pos ⟨rfl,rfl⟩];rfl)) ?_)
          | (refine ze8.mk ⟨rfl,rfl,rfl,rfl,rfl,by rw [if_pos ⟨rfl,rfl⟩,hfa (),hal2,Nat.zero_add],by show (0+(0+l.length))*152<=_;omega,by omega⟩ ?_;rw [if_pos (⟨rfl,rfl⟩:_/\_)])
          | fail)
         refine zaf.to (zaf.up g (fun i=>[(0,LQ l),(7,LLm ls),(9,.ref ⟨0,9,0⟩ 0 l.length l.length),(12,.d (.list l.length (al.flatMap Alr.cells))),(14,I k),(25,.ref ⟨0,217,0⟩ 0 (0+l.length) (0+l.length)),(26,LL C),(28,.ptr ⟨0,28,1⟩ 0 0),(252,LQ l),(253,I l.length),(254,I i)])
          (fun i=>tsM ky hs l (zk4 l k al[k].mi) l.length (W.flatMap Wsh.cells) i ((l.take i).flatMap fun x=>(yi5 x).cells)) l.length (fun i hi ih=> ?_) 0 (Nat.zero_le _)) rfl rfl
         by_cases hlt:i<l.length
         ·have ih:=ih hlt
          rw [z78 (fun x=>(yi5 x).cells) hlt] at ih
          clear q2 q3 hst hagn hpt
          generalize (l.take i).flatMap (fun x=>(yi5 x).cells)=A at *
          repeat' ((conv=>whnf);first
          | refine Yz ?_
           | (refine zal.rec Rqt.cells_length i rfl hlt ?_)
           | (refine ze8.mk ⟨rfl,rfl,rfl,rfl,rfl,rfl,by show (i+1)*168<=_;omega,by omega⟩ ?_)
           | (refine zaf.to ih rfl rfl)
           | fail)
         ·obtain rfl:i=l.length:=by omega
          clear ih
          rw [List.take_length]
          repeat' ((conv=>whnf);first
          | refine Yz ?_
           | (rw [if_pos (⟨rfl,rfl⟩:_/\_)])
           | (refine zae.of q3 ?_)
           | fail)
          clear q2 q3
          refine zaf.to (zaf.up g (fun i=>[(0,LQ l),(7,LLm ls),(9,.ref ⟨0,9,0⟩ 0 l.length l.length),(12,.d (.list l.length (al.flatMap Alr.cells))),(14,I k),(25,.ref ⟨0,217,0⟩ 0 (0+l.length) (0+l.length)),(32,LE L),(286,I L.length),(287,I i)])
           (fun i=>tsM ky hs l (zk4 l k al[k].mi) l.length (((ztx l k al[k].mi).take i++W.drop i).flatMap Wsh.cells) l.length (l.flatMap fun x=>(yi5 x).cells)++[(⟨0,31,0⟩,.cells zab [.d (.str REQ),.d (.str twH),.d (.str twS),I 6,LL C])]) L.length (fun i hi ih=> ?_) 0 (Nat.zero_le _)) rfl rfl
          by_cases hlt:i<L.length
          ·have ih:=ih hlt
           have hst:=hst i (by omega)
           have hib:i<(zk4 l k al[k].mi).length:=by omega
           have hrq:=hLa i hlt
           have hp:∀q r:Rqt,q=r->q.nm=r.nm/\q.ca=r.ca/\q.ki=r.ki/\q.te=r.te/\q.pa=r.pa/\q.li=r.li/\q.fr=r.fr/\q.to=r.to/\q.da=r.da/\q.mi=r.mi/\q.se=r.se/\q.si=r.si/\q.no=r.no:=fun q r e=>by
            subst e
            exact⟨rfl,rfl,rfl,rfl,rfl,rfl,rfl,rfl,rfl,rfl,rfl,rfl,rfl⟩
           replace hp:=hp _ _ hrq
           have hwl:=fun _:Unit=>zah Wsh.cells 18 Wsh.cells_length ((ztx l k al[k].mi).take i++W.drop i)
           have hwn:((ztx l k al[k].mi).take i++W.drop i).length=l.length:=by rw [List.length_append,List.length_take,List.length_drop];omega
           clear hagn hLa
           repeat' ((conv=>whnf);first
           | refine Yz ?_
            | (refine zal.part Ent.cells_length i rfl hlt (by decide) rfl ?_)
            | (refine zal.rec0 Rqt.cells_length i rfl hib ?_)
            | (refine Cmp.tt hp ?_)
            | (refine ze8.mk ⟨rfl,by rw [hwl (),hwn];omega,rfl⟩ ?_;rw [hst])
            | (refine zaf.to ih rfl rfl)
            | fail)
          ·obtain rfl:i=L.length:=by omega
           clear ih
           rw [hLl,List.take_of_length_le (by omega),List.drop_of_length_le (by omega),List.append_nil]
           have hvl:(zk0 ls [] (ztx l k al[k].mi)).length=l.length:=by rw [zhk,hag]
           have hkv:k<(zk0 ls [] (ztx l k al[k].mi)).length:=by omega
           have h0v:0<(zk0 ls [] (ztx l k al[k].mi)).length:=by omega
           have h0a:0<al.length:=by omega
           have p1:(zk0 ls [] (ztx l k al[k].mi))[k].nm=al[k].nm/\(zk0 ls [] (ztx l k al[k].mi))[k].mi=al[k].mi/\(zk0 ls [] (ztx l k al[k].mi))[k].gr=al[k].gr:=by
            rw [hagn k (Nat.le_refl _) hkv hka];exact⟨rfl,rfl,rfl⟩
           have p2:(zk0 ls [] (ztx l k al[k].mi))[0].nm=al[0].nm/\(zk0 ls [] (ztx l k al[k].mi))[0].mi=al[0].mi/\(zk0 ls [] (ztx l k al[k].mi))[0].gr=al[0].gr:=by
            rw [hagn 0 (Nat.zero_le _) h0v h0a];exact⟨rfl,rfl,rfl⟩
           clear hagn hLa hst
           repeat' ((conv=>whnf);first
           | refine Yz ?_
            | (refine z3t.serveN g hl3 hc hsag (by omega) (by rw [if_pos ⟨rfl,rfl⟩]) ?_)
            | (refine zal.rec Alr.cells_length k rfl hkv ?_)
            | (refine zal.rec Alr.cells_length k rfl hka ?_)
            | (refine zal.rec Alr.cells_length 0 rfl h0v ?_)
            | (refine zal.rec Alr.cells_length 0 rfl h0a ?_)
            | (refine Cmp.tt p1 ?_)
            | (refine Cmp.tt p2 ?_)
            | (apply zae.of;assumption)
            | (refine Ret.mk rfl)
            | fail)
end
theorem yqx {x:D} (h:zpf Tryz.prog 26 x):∃a b:Int,x= .agg [.int .u16 a,.int .u8 b]/\(0<=a/\a<=65535):=by
 obtain⟨ds,rfl,h'⟩:=ytb Tryz.underlying26 h
 obtain⟨_,_,rfl,h1,_,_,rfl,h2,rfl⟩:=h'
 obtain⟨a,rfl,ha⟩:=yri Tryz.underlying24 h1
 obtain⟨b,rfl,_⟩:=yri Tryz.underlying5 h2
 simp only [Lit.wf,Bool.and_eq_true,decide_eq_true_eq] at ha
 exact⟨a,b,rfl,ha⟩
theorem yi6 {E:Oracle} (g:Good E) {xs:List D} (h:z65 Tryz.prog [22,23,26] xs) (hb:zkc 1048576 xs):Fc E zh6 (asV xs) (B true):=by
 obtain⟨x,y,z,rfl,h1,h2,h3⟩:=yuy h
 obtain⟨l,rfl⟩:=z80 h1
 obtain⟨ls,rfl⟩:=ybr h2
 obtain⟨a,b,rfl,ha⟩:=yqx h3
 exact zz6 g l ls a b ha hb.2.1.1 (yib g)
end Go.Proofs.YtkgcnknhkobmjaaGreatDoor.Co
