/-
  TopTowerRulings: what its law leans on, part 4.
-/
import Derived.Laws.RangeAny
import Derived.Lib.SplitLaws
import Derived.Test.YtkflcbhclegghaaGreatDoorEvX
import Derived.Test.YtkflcbhclegghaaGreatDoorEvY
import Derived.Test.YtkflcbhclegghaaGreatDoorRead
import Derived.Test.YtkflcbhclegghaaGreatDoorSpBase
import Derived.Test.YtkflcbhclegghaaGreatDoorTwc
namespace Go.Proofs.YtkflcbhclegghaaGreatDoor.Co
open Go Go.Evl
set_option maxHeartbeats 32000000
set_option maxRecDepth 100000
structure OkW(w:Wsh):Prop where
 rc:zt3 w.r=0
 ca:zcd w.r.ca=true
 pa:w.r.pa=[]\/zcd w.r.pa=true
 li:w.r.li=[]
 ea:0<=w.ea/\w.ea<=w.r.mi
 la:w.r.mi<=w.la/\w.la<=1439
 few:(w.r.mi-w.ea)/20+(w.la-w.r.mi)/20<=2
abbrev ylc(l:List Wsh):List (List UInt8):=l.map (·.r.nm)
structure yqj(l:List Wsh):Prop where
 ok:∀w∈l,OkW w
 nd:(ylc l).Nodup
 len:l.length<=64
theorem yqj.take{l:List Wsh}(h:yqj l)(k:Nat):yqj (l.take k):=
 ⟨λw hw=>h.ok w (List.mem_of_mem_take hw),by
  have:=h.nd;unfold ylc at this⊢;rw[List.map_take]
  exact this.sublist (List.take_sublist _ _),by rw[List.length_take];have:=h.len;omega⟩
theorem yqj.fresh{l:List Wsh}(h:yqj l){k:Nat}(hk:k<l.length):l[k].r.nm∉ylc (l.take k):=by
 intro hm;unfold ylc at hm;obtain⟨x,hx,he⟩:=List.mem_map.1 hm;obtain⟨j,hj,rfl⟩:=List.getElem_of_mem hx;rw[List.getElem_take]at he;rw[List.length_take]at hj;have h2:=List.pairwise_iff_getElem.1 h.nd j k (by simp;omega) (by simpa using hk) (by omega);simp only[List.getElem_map]at h2;exact h2 he
def yrg:List Wsh->Nat->List (D×V)
 |[],_=>[]
 |w::r,j=>(.str w.r.nm,I j)::yrg r (j+1)
theorem yj2(q:List UInt8)(k:Nat):∀(l:List Wsh)(j:Nat)(w:Wsh),w.r.nm=q->q∉ylc l->k=j+l.length->setE (.str q) (I k) (yrg l j)=some (yrg (l++[w]) j)
 |[],j,w,h,_,hk=>by
  subst h hk
  rfl
 |x::r,j,w,h,hn,hk=>by
  have ih:=yj2 q k r (j+1) w h (λhm=>hn (by simp[ylc]at hm⊢;exact .inr hm)) (by simp at hk;omega);have hne:q≠x.r.nm:=λe=>hn (by simp[ylc,e])
  rw[yrg,setE];have hf:eqD (.str q) (.str x.r.nm)=some false:=by simp[eqD,hne]
  simp only[hf,ih,Option.map_some,List.cons_append,yrg]
theorem z9x:∀(l:List Wsh)(j:Nat),Evl.idsM (yrg l j)=[]
 |[],_=>rfl
 |_::r,j=>by
  show []++Evl.idsM (yrg r (j+1))=[];rw[z9x r];rfl
section
variable{E:Oracle}(g:Good E)
include g
theorem z1b(e:Int):Fc E zcp [B false,I e] (I 0):=by
 refine g.fn rfl rfl ?_
 repeat'((conv=>whnf);first|refine Yz ?_|(refine Ret.mk rfl))
theorem yug(n a b:Int)(h:a<=n/\n<=b):Fc E zec [I n,I a,I b] (I 0):=by
 refine g.fn rfl rfl ?_;have hw:=z1b g 3
 repeat'((conv=>whnf);first|refine Yz ?_|(apply zaf.of;assumption)|(refine Ret.mk rfl))
theorem yo8:Fc E zco [.d (.list 2 [DI 0,DI 0])] (I 0):=g.compR 1000 (by decide+kernel)
theorem yue:Fc E zco [.d (.list 4 [DI 0,DI 0,DI 0,DI 0])] (I 0):=g.compR 1000 (by decide+kernel)
theorem yuf:Fc E zco [.d (.list 6 [DI 0,DI 0,DI 0,DI 0,DI 0,DI 0])] (I 0):=g.compR 1000 (by decide+kernel)
theorem ysx(w:Wsh)(h:OkW w):Fc E ziy [Wsv w] (I 0):=by
 refine g.fn rfl rfl ?_;have h1:=z5k g w.r h.rc;have h2:=zvd g w.r.ca;rw[h.ca]at h2;have h3:=zvd g w.r.pa;have hli:=h.li;have hea:=h.ea;have hla:=h.la;have hfew:=h.few;have a1:0<=(w.r.mi-w.ea)/20:=Int.ediv_nonneg (by omega) (by omega);have a2:0<=(w.la-w.r.mi)/20:=Int.ediv_nonneg (by omega) (by omega);have e1:decide (w.r.li=[])=true:=decide_eq_true hli;have hm:0<=w.r.mi/\w.r.mi<=1439:=by omega
 by_cases hp:w.r.pa=[]
 ·repeat'((conv=>whnf);first|refine Yz ?_|(apply zaf.of;assumption)|refine Cmp.ff (λh=>h hp) ?_|refine Cmp.ff (λh=>h hli) ?_|refine In.enter (f:=ze4) g.lim rfl rfl ?_|refine Chk.mk (by simp[z94,yrt,z5r,ypg,zk9,Evl.look]) ?_|refine zaf.of (z1b g _) ?_|refine zaf.of (yug g _ _ _ (by omega)) ?_|refine zaf.of (yue g) ?_|refine zaf.of (yuf g) ?_|refine Ret.mk rfl|fail)
 rw[h.pa.resolve_left hp]at h3
 repeat'((conv=>whnf);first|refine Yz ?_|(apply zaf.of;assumption)|refine Cmp.tt hp ?_|refine Cmp.ff (λh=>h hli) ?_|refine In.enter (f:=ze4) g.lim rfl rfl ?_|refine Chk.mk (by simp[z94,yrt,z5r,ypg,zk9,Evl.look]) ?_|refine zaf.of (z1b g _) ?_|refine zaf.of (yug g _ _ _ (by omega)) ?_|refine zaf.of (yue g) ?_|refine zaf.of (yuf g) ?_|refine Ret.mk rfl|fail)
theorem ynu(l:List Wsh)(q:List UInt8)(hl:l.length<=1000000)(hq:q∉ylc l){K:V->Mem->Prop}
  (hK:K (I (-1)) [(⟨0,3,0⟩,.cells zad [S q])]):
  In E 1 zbc [LWi l,.fn zf9 [] [.ptr ⟨0,3,0⟩ 0 0]] [(⟨0,3,0⟩,.cells zad [S q])] K:=by
 refine In.enter (f:=zbc) g.lim rfl rfl ?_
 repeat'((conv=>whnf);first|refine Yz ?_)
 refine zab.to (zab.up g (λk=>[(0,LWi l),(1,.fn zf9 [] [.ptr ⟨0,3,0⟩ 0 0]),(7,I l.length),(8,I k)]) (λ_=>_) l.length (λk hk ih=>?_) 0 (Nat.zero_le _)) rfl rfl
 by_cases hlt:k<l.length
 ·have ih:=ih hlt;have hd:l[k].r.nm≠q:=λe=>hq (List.mem_map.2 ⟨l[k],List.getElem_mem hlt,e⟩)
  repeat'((conv=>whnf);first|refine Yz ?_|refine za2.rec Wsh.cells_length k rfl hlt ?_|refine In.enter (f:=zf9) g.lim rfl rfl ?_|refine Cmp.ff hd ?_|refine zab.to ih rfl rfl|fail)
 ·repeat'((conv=>whnf);first|refine Yz ?_|exact hK|fail)
theorem ysy(l:List Wsh)(q:List UInt8)(hl:l.length<=1000000)(hq:q∉ylc l):Fc E zkh [LWi l,S q] (I (-1)):=by
 refine g.fn rfl rfl ?_;have hin:=λ{K}=>ynu g (K:=K) l q hl hq
 repeat'((conv=>whnf);first|refine Yz ?_|refine hin ?_|refine Ret.mk rfl|fail)
theorem zzc(l:List Wsh)(h:yqj l):Fc E zft [LWi l] (I 0):=by
 refine g.fn rfl rfl ?_;have hlen:=h.len
 repeat'((conv=>whnf);first|refine Yz ?_|fail)
 refine zab.to (zab.up g (λk=>[(0,LWi l),(13,LWi l),(14,I l.length),(15,I k)]) (λ_=>[]) l.length (λk hk ih=>?_) 0 (Nat.zero_le _)) rfl rfl
 by_cases hlt:k<l.length
 ·have ih:=ih hlt;have hc:=ysx g l[k] (h.ok _ (List.getElem_mem hlt));have hn:=ysy g (l.take k) l[k].r.nm (by simp;omega) (h.fresh hlt);have ht:=ygx Wsh.cells 18 Wsh.cells_length l k (by omega)
  repeat'((conv=>whnf);first|refine Yz ?_|refine za2.rec Wsh.cells_length k rfl hlt ?_|(refine zom.at 0 k rfl rfl (by omega) ?_<;>(try rw[ht]))|(apply zaf.of;assumption)|refine zaf.of (z1b g _) ?_|refine zaf.of (yo8 g) ?_|refine zab.to ih rfl rfl|fail)
 clear ih;obtain rfl:k=l.length:=by omega
 repeat'((conv=>whnf);first|refine Yz ?_|fail)
 refine zab.to (zab.up g (λk=>[(0,LWi l),(37,LWi l),(38,I l.length),(39,I k)]) (λ_=>[]) l.length (λk hk ih=>?_) 0 (Nat.zero_le _)) rfl rfl
 by_cases hlt:k<l.length
 ·have ih:=ih hlt;have hli:=(h.ok _ (List.getElem_mem hlt)).li
  repeat'((conv=>whnf);first|refine Yz ?_|refine za2.rec Wsh.cells_length k rfl hlt ?_|refine Cmp.tt hli ?_|refine zab.to ih rfl rfl|fail)
 ·repeat'((conv=>whnf);first|refine Yz ?_|refine Ret.mk rfl|fail)
theorem yyp(w:Wsh)(m:Int)(h:zt3 w.r=0)(hm:0<=m/\m<=1439):Fc E zf8 [Wsv w,I m] (LMv (yf2 {w.r with mi:=m})):=by
 refine g.fn rfl rfl ?_
 have hc:zt3 {w.r with mi:=m}=0:=by
  unfold zt3 at h⊢;rw[zb2]at h⊢;simp only[List.mem_cons,List.not_mem_nil,or_false,forall_eq_or_imp,forall_eq,zib]at h⊢;exact⟨h.1,h.2.1,h.2.2.1,h.2.2.2.1,hm,h.2.2.2.2.2⟩
 have h1:=z5k g _ hc
 repeat'((conv=>whnf);first|refine Yz ?_|(apply zaf.of;assumption)|refine Ret.mk rfl|fail)
theorem yaq(l:List Wsh)(h:yqj l):Fc E zme [LWi l] (LI (List.replicate l.length (-1))):=by
 refine g.fn rfl rfl ?_;have hlen:=h.len
 repeat'((conv=>whnf);first|refine Yz ?_|fail)
 refine zab.to (zab.up g (λk=>[(0,LWi l),(3,.ptr ⟨0,3,0⟩ 0 0),(7,LWi l),(8,I l.length),(9,I k)]) (λk=>[(⟨0,6,0⟩,.map (yrg (l.take k) 0)),(⟨0,3,0⟩,.cells zml [.mp ⟨0,6,0⟩])]) l.length (λk hk ih=>?_) 0 (Nat.zero_le _)) rfl rfl
 by_cases hlt:k<l.length
 ·have ih:=ih hlt;have hset:=yj2 l[k].r.nm k (l.take k) 0 l[k] rfl (h.fresh hlt) (by simp;omega);have ht:l.take k++[l[k]]=l.take (k+1):=by simp
  rw[ht]at hset
  repeat'((conv=>whnf);first|refine Yz ?_|refine za2.rec Wsh.cells_length k rfl hlt ?_|refine yql.mk ⟨_,hset,?_⟩|(simp only[Evl.idsAll,Evl.idsO,z9x,List.nil_append])|refine zab.to ih rfl rfl|fail)
 clear ih;obtain rfl:k=l.length:=by omega
 have hids:=z9x (l.take l.length) 0;generalize yrg (l.take l.length) 0=es at*
 repeat'((conv=>whnf);first|refine Yz ?_|refine In.enter (f:=zdl) g.lim rfl rfl ?_|fail)
 refine zab.to (zab.up g (λk=>[(1,.fn zhh [] [.ptr ⟨0,3,0⟩ 0 0]),(5,.ref ⟨1,5,0⟩ 0 k k),(8,LWi l),(9,I l.length),(10,I k)])
  (λk=>[(⟨0,6,0⟩,.map es),(⟨0,3,0⟩,.cells zml [.mp ⟨0,6,0⟩]),(⟨1,4,0⟩,.row false zc0 1 0 []),(⟨1,5,0⟩,.row false zc0 1 k ((List.replicate k (-1)).map DI))]) l.length (λk hk ih=>?_) 0 (Nat.zero_le _)) rfl rfl
 have hr:((List.replicate k (-1)).map DI).length=k*1:=by simp
 by_cases hlt:k<l.length
 ·have ih:=ih hlt;have hli:=(h.ok _ (List.getElem_mem hlt)).li;rw[List.replicate_succ',List.map_append,List.map_cons,List.map_nil]at ih
  repeat'((conv=>whnf);first|refine Yz ?_|refine za2.rec Wsh.cells_length k rfl hlt ?_|refine In.enter (f:=zhh) g.lim rfl rfl ?_|refine Cmp.tt hli ?_|(simp only[Evl.idsAll,Evl.idsO,hids,List.nil_append])|refine zem.mk (by simp;omega) ?_|refine zab.to ih rfl rfl|fail)
 obtain rfl:k=l.length:=by omega
 repeat'((conv=>whnf);first|refine Yz ?_|(simp only[Evl.idsAll,Evl.idsO,hids,List.nil_append])|refine Ret.mk ?_|fail)
 simp
end
open Go Go.Evl
theorem z8r{cx:Cx}{slot lo:Nat}{old m:Mem}{o:Evl.Id}{off l top:Nat}{wr:Bool}{t sz n:Nat}{xs:List D}(hlo:lo<=o.lv)(hl:Evl.look m o=some (.row wr t sz n xs)):
  Go.Evl.settle cx slot lo old m (.ref o off l top)=some (.ref ⟨cx.lv,slot,Go.Evl.freeK cx.lv slot old⟩ off l top,old++[(⟨cx.lv,slot,Go.Evl.freeK cx.lv slot old⟩,.row wr t sz n xs)]):=by
 have hr:Go.Evl.reach lo m 64 (Go.Evl.ids (.ref o off l top)) []=[o]:=by
  simp[Go.Evl.ids,Go.Evl.reach,hlo,hl,Go.Evl.idsO]
 unfold Go.Evl.settle;simp only[hr];rw[if_pos (by simp[Go.Evl.within,Go.Evl.movable,Go.Evl.onceB,Go.Evl.ids,hl,hlo,Go.Evl.idsO,Go.Evl.isLoop])];simp[Go.Evl.number,Go.Evl.ren,Go.Evl.subst,Go.Evl.moved,hl,Go.Evl.renO]
theorem zto.row{cx:Cx}{slot lo:Nat}{old m:Mem}{o:Evl.Id}{off l top:Nat}{wr:Bool}{t sz n:Nat}{xs:List D}{K:V×Mem->Prop}(hlo:lo<=o.lv)(hl:Evl.look m o=some (.row wr t sz n xs))
  (k:K (.ref ⟨cx.lv,slot,Go.Evl.freeK cx.lv slot old⟩ off l top,old++[(⟨cx.lv,slot,Go.Evl.freeK cx.lv slot old⟩,.row wr t sz n xs)])):zto (Go.Evl.settle cx slot lo old m (.ref o off l top)) K:=⟨_,z8r hlo hl,k⟩
abbrev Unt(i:Int):V:=.d (.agg [DI i,DI (-1)])
def opC(m:Int):List D:=[DI m,DI (-1)]
theorem z0q(m:Int):(opC m).length=2:=rfl
abbrev LOp(l:List Int):V:=.d (.list l.length (l.flatMap opC))
theorem yr2(q:Rqt)(h:ziv q.fr q.to q.da=0):(yf2 q).length<=1000000:=by
 have hpz:=zfl.1 h;have:=ziw q.fr q.da (q.to-q.fr+1).toNat;unfold yf2 z9j;rw[List.length_map];omega
section
variable{E:Oracle}(g:Good E)
include g
theorem zum(l:List Wsh)(i:Nat)(hi:i<l.length)(m:Int)(h:zt3 l[i].r=0)(hm:0<=m/\m<=1439):Fc E zcv [Unt i,LWi l,.d (.agg [DI m,DI (-1)])] (LMv (yf2 {l[i].r with mi:=m})):=by
 refine g.fn rfl rfl ?_;have h1:=yyp g l[i] m h hm
 have hM:(yf2 {l[i].r with mi:=m}).length<=1000000:=yr2 _ (by
  unfold zt3 at h;rw[zb2]at h;simp only[List.mem_cons,List.not_mem_nil,or_false,forall_eq_or_imp,forall_eq,zib]at h
  exact h.2.2.2.1)
 generalize yf2 {l[i].r with mi:=m}=M at*;have hfl:=zae Mvt.cells 7 Mvt.cells_length M
 repeat'((conv=>whnf);first|refine Yz ?_|(apply zaf.of;assumption)|refine zd5.of (In.enter (f:=zdt) g.lim rfl rfl ?_)|(refine⟨(.fn zcu [] [.ptr ⟨0,11,0⟩ 0 0],[(⟨0,3,0⟩,.cells za8 [I i,I (-1)]),(⟨0,4,0⟩,.cells zcw [LWi l]),(⟨0,5,0⟩,.cells zaj [I m,I (-1)]),(⟨0,6,0⟩,.row false zac 7 0 []),(⟨0,7,0⟩,.row false zac 7 0 []),(⟨0,7,1⟩,.cells zs4 [.ref ⟨0,7,0⟩ 0 0 0]),(⟨0,11,0⟩,.cells za8 [I i,I (-1)])]),rfl,?_⟩)|refine In.enter (f:=zcu) g.lim rfl rfl ?_|refine Rnd.enter g.lim ?_|refine zab.step g.lim ?_|refine za2.rec Wsh.cells_length i rfl hi ?_|refine zem.mk ⟨rfl,rfl,rfl,rfl,rfl,hfl,by show(0+M.length)*80<=_;omega,by omega⟩ ?_|refine Ret.mk ?_|fail)
 all_goals simp
theorem ypf(l:List Wsh)(i:Nat)(hi:i<l.length)(cs:List Int)(hc:cs.length<=1000)(h:Fc E zbl [Wsv l[i]] (LI cs)):Fc E zhi [Unt i,LWi l] (LOp cs):=by
 refine g.fn rfl rfl ?_
 repeat'((conv=>whnf);first|refine Yz ?_|(apply zaf.of;assumption)|refine za2.rec Wsh.cells_length i rfl hi ?_|refine In.enter (f:=zdb) g.lim rfl rfl ?_|fail)
 refine zab.to (zab.up g (λk=>[(1,.fn zeg [] []),(5,.ref ⟨1,5,0⟩ 0 k k),(8,LI cs),(9,I cs.length),(10,I k)])
  (λk=>[(⟨0,2,0⟩,.cells za8 [I i,I (-1)]),(⟨0,3,0⟩,.cells zcw [LWi l]),(⟨0,4,0⟩,.row true zaj 2 0 []),(⟨1,4,0⟩,.row true zaj 2 0 []),(⟨1,5,0⟩,.row true zaj 2 k ((cs.take k).flatMap opC))]) cs.length (λk hk ih=>?_) 0 (Nat.zero_le _)) rfl rfl
 have hr:=zae opC 2 z0q (cs.take k);rw[List.length_take]at hr
 by_cases hlt:k<cs.length
 ·have ih:=ih hlt
  have e:(cs.take (k+1)).flatMap opC=(cs.take k).flatMap opC++opC cs[k]:=by
   rw[List.take_add_one,List.getElem?_eq_getElem hlt,List.flatMap_append];simp
  rw[e]at ih
  repeat'((conv=>whnf);first|refine Yz ?_|refine zgp.intI k rfl hlt ?_|refine In.enter (f:=zeg) g.lim rfl rfl ?_|refine zem.mk (by simp;omega) ?_|refine zab.to ih rfl rfl|fail)
 obtain rfl:k=cs.length:=by omega
 clear ih;rw[List.take_length]
 repeat'((conv=>whnf);first|refine Yz ?_|refine zto.row (by decide) rfl ?_|refine Ret.mk ?_|fail)
 all_goals simp
end
def cntB(l:Lmt)(ki te:List UInt8):Bool:=(decide (l.ki=[84])||decide (ki=l.ki))&&(decide (l.te=[])||decide (l.te=te))
theorem ytm{x:Int}(h:0<=x/\x<18446744073709551616):IntKind.u64.wrap x=x:=by
 have hb:IntKind.u64.wrap x=x%18446744073709551616:=by simp[IntKind.wrap,IntKind.signed,IntKind.bits]
 rw[hb];omega
theorem Wr.u64b{x:Int}{K:Int->Prop}(h:0<=x/\x<18446744073709551616)(k:K x):Wr .u64 x K:=⟨by rw[ytm h];exact k⟩
def yzv(l:Lmt):Int:=(l.fr+l.st-1)/l.st
def yhu(l:Lmt)(d:Int)(n:Nat):List Int:=(List.range n).map λ(k:Nat)=>1440*d+l.st*(yzv l+k)
def inP(l:Lmt)(d:Int):Bool:=decide (l.pf<=d/\d<=l.pt)&&ymh l.pf l.pt l.pd d
def ytv(l:Lmt)(d:Int):List Int:=if inP l d=true then yhu l d (zgo l).toNat else []
theorem ym0(l:Lmt)(d:Int)(n:Nat):yhu l d (n+1)=yhu l d n++[1440*d+l.st*(yzv l+n)]:=by
 unfold yhu;rw[List.range_succ,List.map_append]
 rfl
section
variable{E:Oracle}(g:Good E)
include g
theorem ywb(l:Lmt)(h:ziv l.pf l.pt l.pd=0)(d:Int)(hd:0<=d/\d<=99999):Fc E zgu [Lmv l,I d] (B (ymh l.pf l.pt l.pd d)):=by
 refine g.fn rfl rfl ?_;have h1:=ysq g l.pf l.pt l.pd d h (zib.2 hd)
 repeat'((conv=>whnf);first|refine Yz ?_|(apply zaf.of;assumption)|(refine Ret.mk rfl))
end
def ytw(l:Lmt)(d:Int):V:=.d (if inP l d=true/\(zgo l).toNat=0 then .nil else .list (ytv l d).length ((ytv l d).map DI))
section
variable{E:Oracle}(g:Good E)
include g
theorem ypc(l:Lmt)(m:Mvt):Fc E zll [Lmv l,Mvv m] (B (cntB l m.ki m.te)):=by
 refine g.fn rfl rfl ?_;unfold cntB;by_cases h1:l.ki=[84]
 all_goals by_cases h4:m.ki=l.ki
 all_goals by_cases h2:l.te=[]
 all_goals by_cases h3:l.te=m.te
 all_goals first|rw[decide_eq_true h1]|rw[decide_eq_false h1]
 all_goals first|rw[decide_eq_true h2]|rw[decide_eq_false h2]
 all_goals first|rw[decide_eq_true h3]|rw[decide_eq_false h3]
 all_goals first|rw[decide_eq_true h4]|rw[decide_eq_false h4]
 all_goals repeat'((conv=>whnf);first|refine Yz ?_|refine Cmp.tt (by assumption) ?_|refine Cmp.ff (by assumption) ?_|refine Cmp.tt (Eq.symm (by assumption)) ?_|refine Cmp.ff (Ne.symm (by assumption)) ?_|refine Ret.mk rfl|fail)
theorem ysr(l:Lmt)(h:zgr l=0)(d:Int)(hd:d<0/\ -100000<=d):Fc E zg4 [Lmv l,I d] (.tup [.d (.list 0 []),I 3]):=by
 refine g.fn rfl rfl ?_;have h1:=ygr g l;rw[h]at h1;have h2:=zul g d 0 99999;have e:rng d 0 99999=3:=by unfold rng;rw[if_pos (.inl (by omega))]
 rw[e]at h2;have h3:=z5l g 0 3;change Fc E _ _ (I 3)at h3
 repeat'((conv=>whnf);first|refine Yz ?_|(apply zaf.of;assumption)|refine Ret.mk rfl|fail)
theorem yss(l:Lmt)(h:zgr l=0)(d:Int)(hd:0<=d/\d<=99999):∃e,Fc E zg4 [Lmv l,I d] (.tup [ytw l d,I e]):=by
 refine⟨if ymh l.pf l.pt l.pd d=true then 0 else 30,?_⟩;refine g.fn rfl rfl ?_;have hvz:=zhx.1 h;have h1:=ygr g l;rw[h]at h1;have h2:=zul g d 0 99999;rw[zib.2 hd]at h2;have h3:=z5l g 0 0;change Fc E _ _ (I 0)at h3;have hhas:=ywb g l hvz.2.2.2.2.2.2.2.2.1 d hd;cases hin:ymh l.pf l.pt l.pd d with
 | false=>
  rw[hin]at hhas;rw[show ytw l d=LI []from by simp[ytw,ytv,inP,hin]]
  repeat'((conv=>whnf);first
  | refine Yz ?_
   | (apply zaf.of;assumption)
   | (refine Ret.mk rfl)
   | fail)
 | true=>
  rw[hin]at hhas;have a1:l.to/l.st<=l.to:=Int.ediv_le_self _ hvz.2.2.2.2.2.2.1.1;have a2:0<=(l.fr+l.st-1)/l.st:=Int.ediv_nonneg (by omega) (by omega);have a3:(l.fr+l.st-1)/l.st<=l.fr+l.st-1:=Int.ediv_le_self _ (by omega);have a4:0<=l.to/l.st:=Int.ediv_nonneg (by omega) (by omega);have hpz:=zfl.1 hvz.2.2.2.2.2.2.2.2.1
  have hinb:l.pf<=d/\d<=l.pt:=by
   unfold ymh at hin;simp only[Bool.and_eq_true,decide_eq_true_eq]at hin;omega
  have hst0:=zm5 h
  have hN:(if l.to/l.st-(l.fr+l.st-1)/l.st+1>0 then l.to/l.st-(l.fr+l.st-1)/l.st+1 else 0)=(((zgo l).toNat:Nat):Int):=by
   unfold zgo at hst0⊢;split<;>omega
  have hbv:ytw l d=if(zgo l).toNat=0 then .d .nil else LI (yhu l d (zgo l).toNat):=by
   have hp:inP l d=true:=by simp[inP,hin];omega
   unfold ytw ytv;rw[if_pos hp];simp only[hp,true_and];split<;>rfl
  rw[hbv]
  by_cases h0:(zgo l).toNat=0
  ·rw[if_pos h0];rw[h0]at hN
   have hz:¬(l.to/l.st-(l.fr+l.st-1)/l.st+1>0):=by
    intro hc;rw[if_pos hc]at hN;omega
   repeat'((conv=>whnf);first|refine Yz ?_|(apply zaf.of;assumption)|refine zd5.of (In.enter (f:=ze6) g.lim rfl rfl ?_)|(refine⟨(.fn zb5 [] [.ptr ⟨0,22,0⟩ 0 0,.ptr ⟨0,22,1⟩ 0 0],[(⟨0,2,0⟩,.cells zai [S l.nm,S l.ki,S l.te,I l.le,I l.st,I l.fr,I l.to,I l.pf,I l.pt,I l.pd,I l.mo]),(⟨0,22,0⟩,.cells zc0 [I d]),(⟨0,22,1⟩,.cells zai [S l.nm,S l.ki,S l.te,I l.le,I l.st,I l.fr,I l.to,I l.pf,I l.pt,I l.pd,I l.mo])]),rfl,?_⟩)|refine In.enter (f:=zgx) g.lim rfl rfl ?_|refine In.enter (f:=zdw) g.lim rfl rfl ?_|refine In.enter (f:=zb5) g.lim rfl rfl ?_|rw[if_neg hz]|refine zab.step g.lim ?_|refine Ret.mk rfl|fail)
  rw[if_neg h0]
  have hb:∀n:Nat,n<(zgo l).toNat->0<=l.st*((l.fr+l.st-1)/l.st+n)/\l.st*((l.fr+l.st-1)/l.st+n)<=1439:=λn hln=>by
   constructor
   ·exact Int.mul_nonneg (by omega) (by omega)
   have e1:(l.fr+l.st-1)/l.st+n<=l.to/l.st:=by unfold zgo at hln;omega
   have e2:l.st*((l.fr+l.st-1)/l.st+n)<=l.st*(l.to/l.st):=Int.mul_le_mul_of_nonneg_left e1 (by omega);have e3:l.st*(l.to/l.st)<=l.to:=Int.mul_ediv_self_le (by omega);omega
  have hb0:0<=l.st*((l.fr+l.st-1)/l.st+0)/\l.st*((l.fr+l.st-1)/l.st+0)<=1439:=hb 0 (by omega)
  repeat'((conv=>whnf);first|refine Yz ?_|(apply zaf.of;assumption)|refine zd5.of (In.enter (f:=ze6) g.lim rfl rfl ?_)|(refine⟨(.fn zb5 [] [.ptr ⟨0,22,0⟩ 0 0,.ptr ⟨0,22,1⟩ 0 0],[(⟨0,2,0⟩,.cells zai [S l.nm,S l.ki,S l.te,I l.le,I l.st,I l.fr,I l.to,I l.pf,I l.pt,I l.pd,I l.mo]),(⟨0,22,0⟩,.cells zc0 [I d]),(⟨0,22,1⟩,.cells zai [S l.nm,S l.ki,S l.te,I l.le,I l.st,I l.fr,I l.to,I l.pf,I l.pt,I l.pd,I l.mo])]),rfl,?_⟩)|refine In.enter (f:=zgx) g.lim rfl rfl ?_|refine In.enter (f:=zdw) g.lim rfl rfl ?_|refine In.enter (f:=zb5) g.lim rfl rfl ?_|(rw[hN];refine zab.step g.lim ?_)|refine Rnd.enter g.lim ?_|fail)
  refine zab.to (zab.up g (λn=>[(0,.yld ⟨2,14,0⟩),(1,.ptr ⟨0,22,0⟩ 0 0),(2,.ptr ⟨0,22,1⟩ 0 0),(4,I ((l.fr+l.st-1)/l.st)),(41,I (zgo l).toNat),(42,I (n+1:Nat))])
   (λn=>[(⟨0,2,0⟩,.cells zai [S l.nm,S l.ki,S l.te,I l.le,I l.st,I l.fr,I l.to,I l.pf,I l.pt,I l.pd,I l.mo]),(⟨0,22,0⟩,.cells zc0 [I d]),(⟨0,22,1⟩,.cells zai [S l.nm,S l.ki,S l.te,I l.le,I l.st,I l.fr,I l.to,I l.pf,I l.pt,I l.pd,I l.mo]),(⟨2,2,0⟩,.cells zsx [.ref ⟨2,11,0⟩ 0 (n+1) (n+1)]),(⟨2,4,0⟩,.row false zc0 1 0 []),(⟨2,14,0⟩,.loop [(2,.ptr ⟨2,2,0⟩ 0 0),(4,.ref ⟨2,4,0⟩ 0 0 0),(6,.fn zb5 [] [.ptr ⟨0,22,0⟩ 0 0,.ptr ⟨0,22,1⟩ 0 0])] [7] zhq zhr 2 false false none),(⟨2,11,0⟩,.row false zc0 1 (n+1) ((yhu l d (n+1)).map DI))])
   ((zgo l).toNat-1) (λn h2 ihn=>?_) 0 (Nat.zero_le _)) rfl rfl
  have hr:((yhu l d (n+1)).map DI).length=(n+1)*1:=by simp[yhu]
  by_cases hln:n<(zgo l).toNat-1
  ·have ihn:=ihn hln;rw[ym0,List.map_append,List.map_cons,List.map_nil]at ihn;have hb1:=hb (n+1) (by omega);generalize yhu l d (n+1)=X at*
   repeat'((conv=>whnf);first|refine Yz ?_|refine Rnd.enter g.lim ?_|refine zem.mk (by simp;omega) ?_|refine zab.to ihn ?_ ?_|fail)
   ·rw[show((n+1+1:Nat):Int)=((n+1:Nat):Int)+1 from by omega]
   rfl
  have e:n+1=(zgo l).toNat:=by omega
  clear ihn;rw[<-e];have hx:(yhu l d (n+1)).length=n+1:=by simp[yhu]
  generalize yhu l d (n+1)=X at*
  repeat'((conv=>whnf);first|refine Yz ?_|refine zto.row (by decide) rfl ?_|refine Ret.mk ?_|fail)
  all_goals simp[hx]
end
structure Alr where
 nm:List UInt8
 mi:Int
 gr:Bool
 deriving DecidableEq
def Alr.cells(r:Alr):List D:=[.str r.nm,DI r.mi,.bool r.gr]
theorem Alr.cells_length(r:Alr):r.cells.length=3:=rfl
abbrev LRs(l:List Alr):V:=.d (.list l.length (l.flatMap Alr.cells))
def rf0(l:List Wsh):List Alr:=l.map λw=>⟨w.r.nm,0,false⟩
section
variable{E:Oracle}(g:Good E)
include g
theorem yk2(l:List Wsh)(hl:l.length<=64):In E 0 zep [LWi l] [] λv m'=>v=.ref ⟨0,4,0⟩ 0 l.length l.length/\Evl.look m' ⟨0,4,0⟩=some (.row true zah 3 l.length ((rf0 l).flatMap Alr.cells)):=by
 refine In.enter (f:=zep) g.lim rfl rfl ?_
 repeat'((conv=>whnf);first|refine Yz ?_|refine In.enter (f:=zb4) g.lim rfl rfl ?_|fail)
 refine zab.to (zab.up g (λk=>[(1,.fn zgt [] []),(5,.ref ⟨1,5,0⟩ 0 k k),(8,LWi l),(9,I l.length),(10,I k)])
  (λk=>[(⟨0,2,0⟩,.row true zah 3 0 []),(⟨1,4,0⟩,.row true zah 3 0 []),(⟨1,5,0⟩,.row true zah 3 k ((rf0 (l.take k)).flatMap Alr.cells))]) l.length (λk hk ih=>?_) 0 (Nat.zero_le _)) rfl rfl
 have hr:=zae Alr.cells 3 Alr.cells_length (rf0 (l.take k));rw[show(rf0 (l.take k)).length=k by simp[rf0];omega]at hr
 by_cases hlt:k<l.length
 ·have ih:=ih hlt
  have e:(rf0 (l.take (k+1))).flatMap Alr.cells=(rf0 (l.take k)).flatMap Alr.cells++[.str l[k].r.nm,DI 0,.bool false]:=by
   rw[List.take_add_one,List.getElem?_eq_getElem hlt,rf0,List.map_append,List.flatMap_append]
   rfl
  rw[e]at ih
  repeat'((conv=>whnf);first|refine Yz ?_|refine za2.rec Wsh.cells_length k rfl hlt ?_|refine In.enter (f:=zgt) g.lim rfl rfl ?_|refine zem.mk (by simp;omega) ?_|refine zab.to ih rfl rfl|fail)
 obtain rfl:k=l.length:=by omega
 clear ih;rw[List.take_length]
 repeat'((conv=>whnf);first|refine Yz ?_|refine zto.row (by decide) rfl ?_|(exact⟨rfl,rfl⟩)|fail)
theorem zd5.refused(l:List Wsh)(hl:l.length<=64){cx:Cx}{slot:Nat}{mm:Mem}{K:V->Mem->Prop}(hf:Go.Evl.freeK cx.lv slot mm=0)
  (h:K (.ref ⟨cx.lv,slot,0⟩ 0 l.length l.length) (mm++[(⟨cx.lv,slot,0⟩,.row true zah 3 l.length ((rf0 l).flatMap Alr.cells))])):zd5 E zep [LWi l] cx slot mm K:=by
 obtain⟨v,m',h1,rfl,h2⟩:=(yk2 g l hl).got;refine⟨_,_,_,h1,z8r (Nat.zero_le _) h2,?_⟩;rw[hf];exact h
end
abbrev Wnd:=Int×Int
def yev(l:Lmt)(d:Int):List Int:=if d<0 then []else ytv l d
def yww(l:Lmt)(i:Int)(mo d:Int):List Wnd:=((yev l d).filter λb=>decide (b<=mo/\mo<b+l.le)).map λb=>(i,b)
def yqo(l:Lmt)(i:Int)(x:Mvt):List Wnd:=if cntB l x.ki x.te=true then yww l i x.mo (x.mo/1440-1)++yww l i x.mo (x.mo/1440)else []
def yer(ls:List Lmt)(x:Mvt)(n:Nat):List Wnd:=(List.range n).flatMap λi=>yqo (ls.getD i default) i x
def z2c(ls:List Lmt)(x:Mvt):List Wnd:=yer ls x ls.length
def zd2(ls:List Lmt)(P:List Mvt):List Wnd:=P.flatMap (z2c ls)
def ztj(ls:List Lmt)(P own:List Mvt):List Wnd:=(zd2 ls own).filter λw=>decide ((ls.getD w.1.toNat default).mo<(((zd2 ls P).count w+(zd2 ls own).count w:Nat):Int))
def yej(w:Wsh):List Int:=yzb w.r.mi ((w.r.mi-w.ea)/20).toNat ((w.la-w.r.mi)/20).toNat
def zqv(w:Wsh)(m:Int):List Mvt:=yf2 {w.r with mi:=m}
def yra(ls:List Lmt)(P:List Mvt)(w:Wsh):Option Int:=(yej w).find? λm=>(ztj ls P (zqv w m)).isEmpty
def ysn(w:Wsh):Option Int->Alr
 |some m=>⟨w.r.nm,m,true⟩
 |none=>⟨w.r.nm,0,false⟩
def y0g(w:Wsh)(P:List Mvt):Option Int->List Mvt
 |some m=>P++zqv w m
 |none=>P
def z16(ls:List Lmt):List Mvt->List Wsh->List Alr
 |_,[]=>[]
 |P,w::r=>ysn w (yra ls P w)::z16 ls (y0g w P (yra ls P w)) r
theorem z5u(ls:List Lmt):∀(P:List Mvt)(l:List Wsh),(z16 ls P l).length=l.length
 |_,[]=>rfl
 |P,w::r=>by simp[z16,z5u ls _ r]
theorem zcy(w:Wnd):(wndC w).length=2:=rfl
abbrev LWn(l:List Wnd):V:=.d (.list l.length (l.flatMap wndC))
def zmb(es:List (Wnd×Int)):List (D×V):=es.map λp=>(.agg [DI p.1.1,DI p.1.2],I p.2)
def zdr:List (Wnd×Int)->Wnd->Int
 |[],_=>0
 |p::r,w=>if w=p.1 then p.2 else zdr r w
def ypj:List (Wnd×Int)->Wnd->Int->List (Wnd×Int)
 |[],w,n=>[(w,n)]
 |p::r,w,n=>if w=p.1 then(p.1,n)::r else p::ypj r w n
theorem yig(w v:Wnd)(n:Int):∀es,zdr (ypj es w n) v=if v=w then n else zdr es v
 |[]=>rfl
 |p::r=>by
  have ih:=yig w v n r;unfold ypj
  by_cases h:w=p.1
  ·rw[if_pos h,zdr,zdr,<-h];split<;>rfl
  rw[if_neg h,zdr,zdr,ih]
  by_cases h2:v=w
  ·rw[h2,if_neg h,if_pos rfl,if_pos rfl]
  rw[if_neg h2,if_neg h2]
theorem z9l(w v:Wnd):eqD (.agg [DI w.1,DI w.2]) (.agg [DI v.1,DI v.2])=some (decide (w=v)):=by
 obtain⟨a,b⟩:=w;obtain⟨c,d⟩:=v
 by_cases h1:a=c
 ·by_cases h2:b=d
  ·simp[eqD,eqL,h1,h2]
  simp[eqD,eqL,h1,h2]
 simp[eqD,eqL,h1]
theorem z4a(w:Wnd):∀es:List (Wnd×Int),zii (.agg [DI w.1,DI w.2]) (zmb es)=some (if w∈es.map (·.1)then some (I (zdr es w))else none)
 |[]=>rfl
 |p::r=>by
  have ih:=z4a w r;unfold zmb at ih⊢;rw[List.map_cons,zii,z9l,zdr]
  by_cases h:w=p.1
  ·rw[decide_eq_true h,if_pos h];simp[h]
  rw[decide_eq_false h,if_neg h];simp only[ih,List.map_cons,List.mem_cons,h,false_or]
theorem z4g(w:Wnd):∀es:List (Wnd×Int),w∉es.map (·.1)->zdr es w=0
 |[],_=>rfl
 |p::r,h=>by
  simp only[List.map_cons,List.mem_cons,not_or]at h;rw[zdr,if_neg h.1,z4g w r h.2]
theorem yj1(w:Wnd)(n:Int):∀es:List (Wnd×Int),setE (.agg [DI w.1,DI w.2]) (I n) (zmb es)=some (zmb (ypj es w n))
 |[]=>rfl
 |p::r=>by
  have ih:=yj1 w n r;unfold zmb at ih⊢;rw[List.map_cons,setE,z9l,ypj]
  by_cases h:w=p.1
  ·rw[decide_eq_true h,if_pos h]
   rfl
  rw[decide_eq_false h,if_neg h];simp only[ih,Option.map_some,List.map_cons]
theorem zlj:∀es:List (Wnd×Int),Evl.idsM (zmb es)=[]
 |[]=>rfl
 |_::r=>by
  show []++Evl.idsM (zmb r)=[];rw[zlj r];rfl
def yki(ls:List Lmt)(k:Wnd):V:=if k.2<0 then .d (.list 0 [])else ytw (ls.getD k.1.toNat default) k.2
def zjy(ls:List Lmt)(ks:List Wnd):List (D×V):=ks.map λk=>(.agg [DI k.1,DI k.2],yki ls k)
theorem z38(ls:List Lmt)(w:Wnd):∀ks:List Wnd,zii (.agg [DI w.1,DI w.2]) (zjy ls ks)=some (if w∈ks then some (yki ls w)else none)
 |[]=>rfl
 |k::r=>by
  have ih:=z38 ls w r;unfold zjy at ih⊢;rw[List.map_cons,zii,z9l]
  by_cases h:w=k
  ·rw[decide_eq_true h];simp[h]
  rw[decide_eq_false h];simp only[ih,List.mem_cons,h,false_or]
theorem yav(ls:List Lmt)(w:Wnd):∀ks:List Wnd,w∉ks->setE (.agg [DI w.1,DI w.2]) (yki ls w) (zjy ls ks)=some (zjy ls (ks++[w]))
 |[],_=>rfl
 |k::r,h=>by
  simp only[List.mem_cons,not_or]at h;have ih:=yav ls w r h.2;unfold zjy at ih⊢;rw[List.map_cons,setE,z9l,decide_eq_false h.1];simp only[ih,Option.map_some,List.map_cons,List.cons_append]
theorem yij(ls:List Lmt)(k:Wnd):∃d,yki ls k=.d d:=by
 unfold yki ytw;split<;>exact⟨_,rfl⟩
theorem zkf(ls:List Lmt):∀ks:List Wnd,Evl.idsM (zjy ls ks)=[]
 |[]=>rfl
 |k::r=>by
  obtain⟨d,hd⟩:=yij ls k;show Evl.ids (yki ls k)++Evl.idsM (zjy ls r)=[];rw[hd,zkf ls r];rfl
theorem z89(l:Lmt)(h:zgr l=0)(d:Int):(yev l d).length<=1440:=by
 have:=zm5 h;unfold yev ytv yhu
 split
 ·simp
 split
 ·simp;omega
 simp
theorem z2a(l:Lmt)(h:zgr l=0)(i mo d:Int):(yww l i mo d).length<=1440:=by
 have:=z89 l h d;unfold yww;rw[List.length_map];exact Nat.le_trans (List.length_filter_le _ _) this
theorem yq2(l:Lmt)(h:zgr l=0)(i:Int)(x:Mvt):(yqo l i x).length<=2880:=by
 unfold yqo
 split
 ·rw[List.length_append];have h1:=z2a l h i x.mo (x.mo/1440-1);have h2:=z2a l h i x.mo (x.mo/1440);omega
 simp
theorem ybj(ls:List Lmt)(x:Mvt)(n:Nat):yer ls x (n+1)=yer ls x n++yqo (ls.getD n default) n x:=by
 unfold yer;rw[List.range_succ,List.flatMap_append];simp
theorem zxq(ls:List Lmt)(hv:∀l∈ls,zgr l=0)(x:Mvt):∀n,n<=ls.length->(yer ls x n).length<=2880*n
 |0,_=>by simp[yer]
 |n+1,h=>by
  rw[ybj,List.length_append];have h1:=zxq ls hv x n (by omega);have e:ls.getD n default=ls[n]'(by omega):=by simp[List.getD,show n<ls.length by omega]
  have h2:=yq2 (ls.getD n default) (by rw[e];exact hv _ (List.getElem_mem _)) n x;omega
theorem zmp(ls:List Lmt)(hv:∀l∈ls,zgr l=0)(hl:ls.length<=3):∀P:List Mvt,(zd2 ls P).length<=8640*P.length
 |[]=>by simp[zd2]
 |x::P=>by
  have h1:=zmp ls hv hl P;have h2:=zxq ls hv x ls.length (Nat.le_refl _);unfold zd2 at h1⊢;rw[List.flatMap_cons,List.length_append,List.length_cons];unfold z2c at*;omega
mutual
theorem z5q:∀d:D,zk9 d d=true
 |.int k a=>by simp[zk9]
 |.bool a=>by simp[zk9]
 |.str a=>by simp[zk9]
 |.nil=>rfl
 |.list n a=>by simp[zk9,zk5 a]
 |.agg a=>by simp[zk9,zk5 a]
 |.nilp=>rfl
 |.nilf=>rfl
 |.nili=>rfl
 |.ifc a=>by simp[zk9]
 |.nilm=>rfl
 |.fn a=>by simp[zk9]
theorem zk5:∀l:List D,zl6 l l=true
 |[]=>rfl
 |x::r=>by simp[zl6,z5q x,zk5 r]
end
mutual
theorem z2g:∀v:V,zsj v v=true
 |.d a=>z5q a
 |.agg a=>by simp[zsj,zo3 a]
 |.tup a=>by simp[zsj,zo3 a]
 |.ref o a b c=>by simp[zsj]
 |.ptr o a b=>by simp[zsj]
 |.lptr a n=>by simp[zsj,zk5 a]
 |.cl n a=>by simp[zsj,zk5 a]
 |.fn f a b=>by simp[zsj,zo3 a,zo3 b]
 |.yld o=>by simp[zsj]
 |.mp o=>by simp[zsj]
 |.it o=>by simp[zsj]
 |.skip=>rfl
 |.undef=>rfl
theorem zo3:∀l:List V,z0c l l=true
 |[]=>rfl
 |x::r=>by simp[z0c,z2g x,zo3 r]
end
def yjf:Mem->Bool
 |[]=>true
 |(_,o)::r=>(match o with
  |.cells ..=>true
  |.row ..=>true
  |_=>false)&&yjf r
def zvi(m1:Mem):Mem->Prop
 |[]=>True
 |(i,o)::r=>Evl.look m1 i=some o/\zvi m1 r
theorem yiv(m1:Mem):∀m:Mem,yjf m=true->zvi m1 m->yct m1 m=true
 |[],_,_=>rfl
 |(i,o)::r,h,hk=>by
  obtain⟨h1,h2⟩:=hk;simp only[yjf,Bool.and_eq_true]at h;have ih:=yiv m1 r h.2 h2;unfold yct;rw[h1,ih,Bool.and_true]
  cases o<;>simp at h
  ·simp[ygu,zo3]
  simp[ygu,zk5]
structure Qs(E:Oracle)(f:Nat)(as0:List V)(m0:Mem)(r:V):Prop where
 got:In E 1 f as0 m0 λv m1=>v=r/\zvi m1 m0
theorem znw.of{E:Oracle}{f:Nat}{first caps args as0:List V}{m m0:Mem}{r r':V}{K:V->Prop}(is:List Evl.Id)(his:reach 0 m 64 (zev (first++args++caps)) []=is)
  (hc:(within is 0 (zev (first++args++caps))&&movable is 0 m)=true)(has:zrp (number ⟨0,0⟩ 0 0 is) (first++args++caps)=as0)(hm:moved (number ⟨0,0⟩ 0 0 is) m (number ⟨0,0⟩ 0 0 is)=m0)
  (hq:Qs E f as0 m0 r)(hp:yjf m0=true)(hid:(ids r).all (λi=>((number ⟨0,0⟩ 0 0 is).map (·.2)).elem i)=true)(hr:ren (zpk (number ⟨0,0⟩ 0 0 is)) r=r')(hk:K r'):znw E (.fn f first caps) args m K:=by
 obtain⟨v,m1,h1,rfl,h3⟩:=hq.got;refine⟨r',?_,hk⟩;simp only[zyi,his,hc,if_true,has,hm,h1];rw[yiv m1 m0 hp h3,hid,hr]
 rfl
def znx(l:Lmt)(i:Int)(mo:Int)(X:List Int):List Wnd:=(X.filter λb=>decide (b<=mo/\mo<b+l.le)).map λb=>(i,b)
theorem z2b(l:Lmt)(i mo:Int)(X:List Int):(znx l i mo X).length<=X.length:=by
 unfold znx;rw[List.length_map];exact List.length_filter_le _ _
theorem zxr(l:Lmt)(i mo:Int){X:List Int}{n:Nat}(h:n<X.length):znx l i mo (X.take (n+1))=znx l i mo (X.take n)++if X[n]<=mo/\mo<X[n]+l.le then [(i,X[n])]else []:=by
 unfold znx;rw[List.take_add_one,List.getElem?_eq_getElem h,List.filter_append,List.map_append];congr 1;simp only[Option.toList_some,List.filter_cons,List.filter_nil,decide_eq_true_eq];split<;>rfl
def yb6(l:Lmt)(i:Int)(mo:Int):Nat->List Wnd
 |0=>[]
 |1=>[]++znx l i mo (yev l (mo/1440-1))
 |_=>[]++znx l i mo (yev l (mo/1440-1))++znx l i mo (yev l (mo/1440))
theorem yre(l:Lmt)(h:zgr l=0)(i mo:Int)(j:Nat):(yb6 l i mo j).length<=2880:=by
 have h1:=z2a l h i mo (mo/1440-1);have h2:=z2a l h i mo (mo/1440);unfold yww at h1 h2;unfold yb6 znx
 split
 ·simp
 ·rw[List.nil_append];omega
 rw[List.nil_append,List.length_append];omega
theorem z68(ls:List Lmt)(l:Lmt)(k:Nat)(e:ls.getD k default=l)(d:Int):yki ls ((k:Int),d)=LI (yev l d)\/(yki ls ((k:Int),d)=.d .nil/\yev l d=[]):=by
 unfold yki yev;dsimp only;rw[Int.toNat_natCast,e]
 split
 ·exact .inl rfl
 unfold ytw
 split
 ·rename_i h;right;refine⟨rfl,?_⟩;rw[ytv,if_pos h.1,h.2]
  rfl
 exact .inl rfl
theorem z67(l:Lmt)(h:zgr l=0)(d:Int)(hd:d<=99999):∀b∈yev l d,0<=b/\b<=200000000:=by
 intro b hb;have hst0:=zm5 h;have hvz:=zhx.1 h;unfold yev at hb
 split at hb
 ·simp at hb
 unfold ytv at hb
 split at hb
 ·unfold yhu at hb;obtain⟨n,hn,rfl⟩:=List.mem_map.1 hb;have hn:=List.mem_range.1 hn;have a2:0<=(l.fr+l.st-1)/l.st:=Int.ediv_nonneg (by omega) (by omega);unfold yzv;have h1:0<=l.st*((l.fr+l.st-1)/l.st+n):=Int.mul_nonneg (by omega) (by omega);have e1:(l.fr+l.st-1)/l.st+n<=l.to/l.st:=by unfold zgo at hn;omega
  have e2:l.st*((l.fr+l.st-1)/l.st+n)<=l.st*(l.to/l.st):=Int.mul_le_mul_of_nonneg_left e1 (by omega);have e3:l.st*(l.to/l.st)<=l.to:=Int.mul_ediv_self_le (by omega);omega
 simp at hb
abbrev mvC(x:Mvt):List V:=[I x.mo,S x.ki,S x.te,I x.se,I x.si,I x.no,S x.nm]
abbrev mBd(ls:List Lmt)(ct bg:List (D×V)):Mem:=[(⟨0,0,0⟩,.cells zbi [LLm ls,.mp ⟨0,0,1⟩,.mp ⟨0,0,2⟩]),(⟨0,0,1⟩,.map ct),(⟨0,0,2⟩,.map bg)]
structure UB(E:Oracle)(imm:Bool)(f:Nat)(ls:List Lmt)(av:List V)(es:List (Wnd×Int))(ks:List Wnd)(Q:V->List (Wnd×Int)->List Wnd->Prop):Prop where
 got:In E 1 f (.ptr ⟨0,0,0⟩ 0 0::av) (mBd ls (zmb es) (zjy ls ks)) λv m1=>match imm with
  |true=>zxy ⟨0,1⟩ 0 true v m1 λv' m'=>∃es' ks',Q v' es' ks'/\zvi m' (mBd ls (zmb es') (zjy ls ks'))
  |false=>∃es' ks',Q v es' ks'/\zvi m1 (mBd ls (zmb es') (zjy ls ks'))
theorem yiq(m:Mem):∀av:List V,yip av=true->av.map (z0i m)=av/\zev av=[]/\∀σ,zrp σ av=av
 |[],_=>⟨rfl,rfl,λ_=>rfl⟩
 |v::r,h=>by
  cases v<;>simp[yip]at h;obtain⟨h1,h2,h3⟩:=yiq m r h;refine⟨by rw[List.map_cons,h1];rfl,by show []++zev r=[];rw[h2];rfl,λσ=>?_⟩;show _::zrp σ r=_;rw[h3 σ];rfl
theorem z5c(σ:List (Evl.Id×Evl.Id)):∀es,ygo σ (zmb es)=zmb es
 |[]=>rfl
 |p::r=>by
  have:=z5c σ r;unfold zmb at this⊢;simp only[List.map_cons,ygo,this]
  rfl
theorem z5b(σ:List (Evl.Id×Evl.Id))(ls:List Lmt):∀ks,ygo σ (zjy ls ks)=zjy ls ks
 |[]=>rfl
 |k::r=>by
  have:=z5b σ ls r;obtain⟨d,hd⟩:=yij ls k;unfold zjy at this⊢;simp only[List.map_cons,ygo,this,hd]
  rfl
theorem ya7:∀(m:Mem)(i:Evl.Id)(o:Ob),Evl.look m i=some o->Evl.upd m i o=m
 |[],_,_,h=>by simp[Evl.look]at h
 |(j,x)::r,i,o,h=>by
  simp only[Evl.look]at h;simp only[Evl.upd]
  split at h
  ·rename_i e;rw[if_pos e,Option.some.inj h,e]
  rename_i e;rw[if_neg e,ya7 r i o h]
theorem UpdB.of{E:Oracle}{imm:Bool}{ls:List Lmt}{b0 b1 b2:Evl.Id}{m:Mem}{f:Nat}{first args av:List V}{es:List (Wnd×Int)}{ks:List Wnd}{Q:V->List (Wnd×Int)->List Wnd->Prop}{K:V->Mem->Prop}
  (hu:UB E imm f ls av es ks Q)(ha:first++args=.ptr b0 0 0::av)(hd:yip av=true)(hne:b0≠b1/\b0≠b2/\b1≠b2)
  (h0:Evl.look m b0=some (.cells zbi [LLm ls,.mp b1,.mp b2]))(h1:Evl.look m b1=some (.map (zmb es)))(h2:Evl.look m b2=some (.map (zjy ls ks)))
  (hQ:∀v es' ks',Q v es' ks'->(∀σ,ren σ v=v)/\ids v=[])
  (hk:∀v es' ks',Q v es' ks'->ztm m b1 (.map (zmb es')) λm1=>ztm m1 b2 (.map (zjy ls ks')) λm2=>K v m2):zuu E imm (.fn f first []) args m K:=by
 obtain⟨n1,n2,n3⟩:=hne;obtain⟨hf1,hf2,hf3⟩:=yiq m av hd;have e1:(first++args++([]:List V)).map (z0i m)=.ptr b0 0 0::av:=by rw[List.append_nil,ha,List.map_cons,hf1];rfl
 have e2:zev (V.ptr b0 0 0::av)=[b0]:=by show [b0]++zev av=_;rw[hf2];rfl
 have hi0:idsO (.cells zbi [LLm ls,.mp b1,.mp b2])=[b1,b2]:=rfl;have hi1:idsO (.map (zmb es))=[]:=zlj es;have hi2:idsO (.map (zjy ls ks))=[]:=zkf ls ks
 have e3:reach 0 m 64 [b0] []=[b0,b1,b2]:=by
  show reach 0 m (60+1+1+1+1) [b0] []=_;simp[reach,h0,h1,h2,hi0,hi1,hi2,Ne.symm n1,Ne.symm n2,Ne.symm n3]
 have e4:(within [b0,b1,b2] 0 [b0]&&movable [b0,b1,b2] 0 m)=true:=by
  simp[within,movable,onceB,h0,h1,h2,hi0,hi1,hi2,isLoop,n1,n2,n3]
 have e5:number ⟨0,0⟩ 0 0 [b0,b1,b2]=[(b0,⟨0,0,0⟩),(b1,⟨0,0,1⟩),(b2,⟨0,0,2⟩)]:=rfl
 have e6:zrp [(b0,⟨0,0,0⟩),(b1,⟨0,0,1⟩),(b2,⟨0,0,2⟩)] (V.ptr b0 0 0::av)=V.ptr ⟨0,0,0⟩ 0 0::av:=by
  show _::zrp _ av=_;rw[hf3];simp[ren,subst]
 have e7:moved [(b0,⟨0,0,0⟩),(b1,⟨0,0,1⟩),(b2,⟨0,0,2⟩)] m [(b0,⟨0,0,0⟩),(b1,⟨0,0,1⟩),(b2,⟨0,0,2⟩)]=mBd ls (zmb es) (zjy ls ks):=by
  simp[moved,h0,h1,h2,renO,zrp,ren,subst,z5c,z5b,n1,n2,n3]
 obtain⟨v,m1,g1,g2⟩:=hu.got
 have back:∀(mm:Mem)es' ks',zvi mm (mBd ls (zmb es') (zjy ls ks'))->zvl [(b0,⟨0,0,0⟩),(b1,⟨0,0,1⟩),(b2,⟨0,0,2⟩)] mm [(b0,⟨0,0,0⟩),(b1,⟨0,0,1⟩),(b2,⟨0,0,2⟩)] m=some (Evl.upd (Evl.upd m b1 (.map (zmb es'))) b2 (.map (zjy ls ks'))):=λmm es' ks' hk=>by
  obtain⟨k0,k1,k2,_⟩:=hk;have j1:idsO (.map (zmb es'))=[]:=zlj es';have j2:idsO (.map (zjy ls ks'))=[]:=zkf ls ks';have j0:idsO (.cells zbi [LLm ls,.mp ⟨0,0,1⟩,.mp ⟨0,0,2⟩])=[⟨0,0,1⟩,⟨0,0,2⟩]:=rfl
  have r0:zrp (zpk [(b0,⟨0,0,0⟩),(b1,⟨0,0,1⟩),(b2,⟨0,0,2⟩)]) [LLm ls,.mp ⟨0,0,1⟩,.mp ⟨0,0,2⟩]=[LLm ls,.mp b1,.mp b2]:=by
   simp[zpk,zrp,ren,subst]
  simp[zvl,k0,k1,k2,okU,j0,j1,j2,r0,ya7 m b0 _ h0,renO,z5c,z5b]
 cases imm with
 |false=>
  obtain⟨es',ks',hq,hkp⟩:=g2;obtain⟨hr,hid⟩:=hQ v es' ks' hq;have:=hk v es' ks' hq;rw[zd1,zd1]at this;refine⟨v,_,?_,this⟩;simp only[zt2,e1,e2,e3,e4,if_true,e5,e6,e7,g1];rw[if_neg (by decide),hid,back m1 es' ks' hkp];simp[hr]
 |true=>
  obtain⟨⟨v',mm⟩,h5,h6⟩:=z86 g2;dsimp only at h5 h6;obtain⟨es',ks',hq,hkp⟩:=h6;split at h5
  case isFalse=>cases h5
  rename_i h4;obtain⟨hr,hid⟩:=hQ v' es' ks' hq;have:=hk v' es' ks' hq;rw[zd1,zd1]at this;refine⟨v',_,?_,this⟩;simp only[zt2,e1,e2,e3,e4,if_true,e5,e6,e7,g1];rw[show zk1 1 (zoi (mBd ls (zmb es) (zjy ls ks)))=true from rfl,show zk1 1 (idsAll (ze1 1 m1))=true from h4];simp only[Bool.and_self,if_true];rw[show zpu ⟨0,1⟩ 0 1 true (ze1 1 m1) m1 v=some (v',mm)from h5];dsimp only;rw[hid,back mm es' ks' hkp];simp[hr]
section
variable{E:Oracle}(g:Good E)
include g
theorem yuh(ls:List Lmt)(l:Lmt)(h:zgr l=0)(k:Nat)(e:ls.getD k default=l)(d:Int)(hd:-1<=d/\d<=99999):∃er,Fc E zg4 [Lmv l,I d] (.tup [yki ls ((k:Int),d),I er]):=by
 unfold yki;dsimp only;rw[Int.toNat_natCast,e]
 by_cases hn:d<0
 ·rw[if_pos hn];exact⟨3,ysr g l h d (by omega)⟩
 rw[if_neg hn];exact yss g l h d (by omega)
end
end Go.Proofs.YtkflcbhclegghaaGreatDoor.Co
