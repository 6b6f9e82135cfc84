/-
  TopTowerServed: what its law leans on, part 4.
-/
import Derived.Laws.RangeAny
import Derived.Lib.SplitLaws
import Derived.Test.YtkgcnknhkobmjaaGreatDoorEvX
import Derived.Test.YtkgcnknhkobmjaaGreatDoorRead
import Derived.Test.YtkgcnknhkobmjaaGreatDoorSpBase
import Derived.Test.YtkgcnknhkobmjaaGreatDoorTsc
namespace Go.Proofs.YtkgcnknhkobmjaaGreatDoor.Co
open Go Go.Evl
set_option maxHeartbeats 32000000
set_option maxRecDepth 100000
structure OkW (w:Wsh):Prop where
 rc:zwk w.r=0
 ca:zfl w.r.ca=true
 pa:w.r.pa=[]\/zfl w.r.pa=true
 li:w.r.li=[]
 ea:0<=w.ea/\w.ea<=w.r.mi
 la:w.r.mi<=w.la/\w.la<=1439
 few:(w.r.mi-w.ea)/20+(w.la-w.r.mi)/20<=2
abbrev yfy (l:List Wsh):List (List UInt8):=l.map (·.r.nm)
structure yp0 (l:List Wsh):Prop where
 ok:∀w∈l,OkW w
 nd:(yfy l).Nodup
 len:l.length<=64
theorem yp0.take {l:List Wsh} (h:yp0 l) (k:Nat):yp0 (l.take k):=
 ⟨fun w hw=>h.ok w (List.mem_of_mem_take hw),by
  have:=h.nd
  unfold yfy at this ⊢
  rw [List.map_take]
  exact this.sublist (List.take_sublist _ _),by rw [List.length_take];have:=h.len;omega⟩
theorem yp0.fresh {l:List Wsh} (h:yp0 l) {k:Nat} (hk:k<l.length):l[k].r.nm∉yfy (l.take k):=by
 intro hm
 unfold yfy at hm
 obtain⟨x,hx,he⟩:=List.mem_map.1 hm
 obtain⟨j,hj,rfl⟩:=List.getElem_of_mem hx
 rw [List.getElem_take] at he
 rw [List.length_take] at hj
 have h2:=List.pairwise_iff_getElem.1 h.nd j k (by simp;omega) (by simpa using hk) (by omega)
 simp only [List.getElem_map] at h2
 exact h2 he
def ynx:List Wsh->Nat->List (D×V)
 | [],_=>[]
 | w::r,j=>(.str w.r.nm,I j)::ynx r (j+1)
theorem ygp (q:List UInt8) (k:Nat):∀(l:List Wsh) (j:Nat) (w:Wsh),w.r.nm=q->q∉yfy l->k=j+l.length->zqi (.str q) (I k) (ynx l j)=some (ynx (l++[w]) j)
 | [],j,w,h,_,hk=>by
  subst h hk
  rfl
 | x::r,j,w,h,hn,hk=>by
  have ih:=ygp q k r (j+1) w h (fun hm=>hn (by simp [yfy] at hm ⊢;exact .inr hm)) (by simp at hk;omega)
  have hne:q≠x.r.nm:=fun e=>hn (by simp [yfy,e])
  rw [ynx,zqi]
  have hf:eqD (.str q) (.str x.r.nm)=some false:=by simp [eqD,hne]
  simp only [hf,ih,Option.map_some,List.cons_append,ynx]
theorem z7a:∀(l:List Wsh) (j:Nat),Evl.idsM (ynx l j)=[]
 | [],_=>rfl
 | _::r,j=>by
  show []++Evl.idsM (ynx r (j+1))=[]
  rw [z7a r];rfl
section
variable {E : Oracle} (g : Good E)
include g
theorem ygg (e:Int):Fc E zdf [B false,I e] (I 0):=by
 refine g.fn rfl rfl ?_
 repeat' ((conv=>whnf);first
 | refine Yz ?_
  | (refine Ret.mk rfl))
theorem yqp (n a b:Int) (h:a<=n/\n<=b):Fc E zc8 [I n,I a,I b] (I 0):=by
 refine g.fn rfl rfl ?_
 have hw:=ygg g 3
 repeat' ((conv=>whnf);first
 | refine Yz ?_
  | (apply zae.of;assumption)
  | (refine Ret.mk rfl))
theorem yqm:Fc E zc4 [.d (.list 2 [DI 0,DI 0])] (I 0):=g.compR 1000 (by decide+kernel)
theorem yqn:Fc E zc4 [.d (.list 4 [DI 0,DI 0,DI 0,DI 0])] (I 0):=g.compR 1000 (by decide+kernel)
theorem yqo:Fc E zc4 [.d (.list 6 [DI 0,DI 0,DI 0,DI 0,DI 0,DI 0])] (I 0):=g.compR 1000 (by decide+kernel)
theorem ypi (w:Wsh) (h:OkW w):Fc E zhd [Wsv w] (I 0):=by
 refine g.fn rfl rfl ?_
 have h1:=z3d g w.r h.rc
 have h2:=zqf g w.r.ca
 rw [h.ca] at h2
 have h3:=zqf g w.r.pa
 have hli:=h.li
 have hea:=h.ea
 have hla:=h.la
 have hfew:=h.few
 have a1:0<=(w.r.mi-w.ea)/20:=Int.ediv_nonneg (by omega) (by omega)
 have a2:0<=(w.la-w.r.mi)/20:=Int.ediv_nonneg (by omega) (by omega)
 have e1:decide (w.r.li=[])=true:=decide_eq_true hli
 have hm:0<=w.r.mi/\w.r.mi<=1439:=by omega
 by_cases hp:w.r.pa=[]
 ·repeat' ((conv=>whnf);first
 | refine Yz ?_
   | (apply zae.of;assumption)
   | (refine Cmp.ff (fun h=>h hp) ?_)
   | (refine Cmp.ff (fun h=>h hli) ?_)
   | (refine In.enter (f:=zdw) g.lim rfl rfl ?_)
   | (refine Chk.mk (by simp [z7i,yof,z3j,yl3,zi9,Evl.look]) ?_)
   | (refine zae.of (ygg g _) ?_)
   | (refine zae.of (yqp g _ _ _ (by omega)) ?_)
   | (refine zae.of (yqn g) ?_)
   | (refine zae.of (yqo g) ?_)
   | (refine Ret.mk rfl)
   | fail)
 ·rw [h.pa.resolve_left hp] at h3
  repeat' ((conv=>whnf);first
  | refine Yz ?_
   | (apply zae.of;assumption)
   | (refine Cmp.tt hp ?_)
   | (refine Cmp.ff (fun h=>h hli) ?_)
   | (refine In.enter (f:=zdw) g.lim rfl rfl ?_)
   | (refine Chk.mk (by simp [z7i,yof,z3j,yl3,zi9,Evl.look]) ?_)
   | (refine zae.of (ygg g _) ?_)
   | (refine zae.of (yqp g _ _ _ (by omega)) ?_)
   | (refine zae.of (yqn g) ?_)
   | (refine zae.of (yqo g) ?_)
   | (refine Ret.mk rfl)
   | fail)
theorem ykg (l:List Wsh) (q:List UInt8) (hl:l.length<=1000000) (hq:q∉yfy l) {K:V->Mem->Prop}
  (hK:K (I (-1)) [(⟨0,3,0⟩,.cells zbl [S q])]):
  In E 1 za3 [LWi l,.fn zeu [] [.ptr ⟨0,3,0⟩ 0 0]] [(⟨0,3,0⟩,.cells zbl [S q])] K:=by
 refine In.enter (f:=za3) g.lim rfl rfl ?_
 repeat' ((conv=>whnf);first
 | refine Yz ?_)
 refine zaf.to (zaf.up g (fun k=>[(0,LWi l),(1,.fn zeu [] [.ptr ⟨0,3,0⟩ 0 0]),(7,I l.length),(8,I k)]) (fun _=>_) l.length (fun k hk ih=> ?_) 0 (Nat.zero_le _)) rfl rfl
 by_cases hlt:k<l.length
 ·have ih:=ih hlt
  have hd:l[k].r.nm≠q:=fun e=>hq (List.mem_map.2 ⟨l[k],List.getElem_mem hlt,e⟩)
  repeat' ((conv=>whnf);first
  | refine Yz ?_
   | (refine zal.rec Wsh.cells_length k rfl hlt ?_)
   | (refine In.enter (f:=zeu) g.lim rfl rfl ?_)
   | (refine Cmp.ff hd ?_)
   | (refine zaf.to ih rfl rfl)
   | fail)
 ·repeat' ((conv=>whnf);first
 | refine Yz ?_
   | (exact hK)
   | fail)
theorem ypj (l:List Wsh) (q:List UInt8) (hl:l.length<=1000000) (hq:q∉yfy l):Fc E zif [LWi l,S q] (I (-1)):=by
 refine g.fn rfl rfl ?_
 have hin:=fun {K}=>ykg g (K:=K) l q hl hq
 repeat' ((conv=>whnf);first
 | refine Yz ?_
  | (refine hin ?_)
  | (refine Ret.mk rfl)
  | fail)
theorem z8a (l:List Wsh) (h:yp0 l):Fc E zgt [LWi l] (I 0):=by
 refine g.fn rfl rfl ?_
 have hlen:=h.len
 repeat' ((conv=>whnf);first
 | refine Yz ?_
  | fail)
 refine zaf.to (zaf.up g (fun k=>[(0,LWi l),(13,LWi l),(14,I l.length),(15,I k)]) (fun _=>[]) l.length (fun k hk ih=> ?_) 0 (Nat.zero_le _)) rfl rfl
 by_cases hlt:k<l.length
 ·have ih:=ih hlt
  have hc:=ypi g l[k] (h.ok _ (List.getElem_mem hlt))
  have hn:=ypj g (l.take k) l[k].r.nm (by simp;omega) (h.fresh hlt)
  have ht:=ydx Wsh.cells 18 Wsh.cells_length l k (by omega)
  repeat' ((conv=>whnf);first
  | refine Yz ?_
   | (refine zal.rec Wsh.cells_length k rfl hlt ?_)
   | (refine zff.at 0 k rfl rfl (by omega) ?_<;>(try rw [ht]))
   | (apply zae.of;assumption)
   | (refine zae.of (ygg g _) ?_)
   | (refine zae.of (yqm g) ?_)
   | (refine zaf.to ih rfl rfl)
   | fail)
 ·clear ih
  obtain rfl:k=l.length:=by omega
  repeat' ((conv=>whnf);first
  | refine Yz ?_
   | fail)
  refine zaf.to (zaf.up g (fun k=>[(0,LWi l),(37,LWi l),(38,I l.length),(39,I k)]) (fun _=>[]) l.length (fun k hk ih=> ?_) 0 (Nat.zero_le _)) rfl rfl
  by_cases hlt:k<l.length
  ·have ih:=ih hlt
   have hli:=(h.ok _ (List.getElem_mem hlt)).li
   repeat' ((conv=>whnf);first
   | refine Yz ?_
    | (refine zal.rec Wsh.cells_length k rfl hlt ?_)
    | (refine Cmp.tt hli ?_)
    | (refine zaf.to ih rfl rfl)
    | fail)
  ·repeat' ((conv=>whnf);first
  | refine Yz ?_
    | (refine Ret.mk rfl)
    | fail)
theorem yvj (w:Wsh) (m:Int) (h:zwk w.r=0) (hm:0<=m/\m<=1439):Fc E zjh [Wsv w,I m] (LMv (ycx {w.r with mi:=m})):=by
 refine g.fn rfl rfl ?_
 have hc:zwk {w.r with mi:=m}=0:=by
  unfold zwk at h ⊢
  rw [za5] at h ⊢
  simp only [List.mem_cons,List.not_mem_nil,or_false,forall_eq_or_imp,forall_eq,zfe] at h ⊢
  exact⟨h.1,h.2.1,h.2.2.1,h.2.2.2.1,hm,h.2.2.2.2.2⟩
 have h1:=z3d g _ hc
 repeat' ((conv=>whnf);first
 | refine Yz ?_
  | (apply zae.of;assumption)
  | (refine Ret.mk rfl)
  | fail)
theorem ypg (l:List Wsh) (h:yp0 l):Fc E zkh [LWi l] (LI (List.replicate l.length (-1))):=by
 refine g.fn rfl rfl ?_
 have hlen:=h.len
 repeat' ((conv=>whnf);first
 | refine Yz ?_
  | fail)
 refine zaf.to (zaf.up g (fun k=>[(0,LWi l),(3,.ptr ⟨0,3,0⟩ 0 0),(7,LWi l),(8,I l.length),(9,I k)]) (fun k=>[(⟨0,6,0⟩,.map (ynx (l.take k) 0)),(⟨0,3,0⟩,.cells zkm [.mp ⟨0,6,0⟩])]) l.length (fun k hk ih=> ?_) 0 (Nat.zero_le _)) rfl rfl
 by_cases hlt:k<l.length
 ·have ih:=ih hlt
  have hset:=ygp l[k].r.nm k (l.take k) 0 l[k] rfl (h.fresh hlt) (by simp;omega)
  have ht:l.take k++[l[k]]=l.take (k+1):=by simp
  rw [ht] at hset
  repeat' ((conv=>whnf);first
  | refine Yz ?_
   | (refine zal.rec Wsh.cells_length k rfl hlt ?_)
   | (refine yi1.mk ⟨_,hset,?_⟩)
   | (simp only [Evl.idsAll,Evl.idsO,z7a,List.nil_append])
   | (refine zaf.to ih rfl rfl)
   | fail)
 ·clear ih
  obtain rfl:k=l.length:=by omega
  have hids:=z7a (l.take l.length) 0
  generalize ynx (l.take l.length) 0=es at *
  repeat' ((conv=>whnf);first
  | refine Yz ?_
   | (refine In.enter (f:=zcq) g.lim rfl rfl ?_)
   | fail)
  refine zaf.to (zaf.up g (fun k=>[(1,.fn zf3 [] [.ptr ⟨0,3,0⟩ 0 0]),(5,.ref ⟨1,5,0⟩ 0 k k),(8,LWi l),(9,I l.length),(10,I k)])
   (fun k=>[(⟨0,6,0⟩,.map es),(⟨0,3,0⟩,.cells zkm [.mp ⟨0,6,0⟩]),(⟨1,4,0⟩,.row false zbs 1 0 []),(⟨1,5,0⟩,.row false zbs 1 k ((List.replicate k (-1)).map DI))]) l.length (fun k hk ih=> ?_) 0 (Nat.zero_le _)) rfl rfl
  have hr:((List.replicate k (-1)).map DI).length=k*1:=by simp
  by_cases hlt:k<l.length
  ·have ih:=ih hlt
   have hli:=(h.ok _ (List.getElem_mem hlt)).li
   rw [List.replicate_succ',List.map_append,List.map_cons,List.map_nil] at ih
   repeat' ((conv=>whnf);first
   | refine Yz ?_
    | (refine zal.rec Wsh.cells_length k rfl hlt ?_)
    | (refine In.enter (f:=zf3) g.lim rfl rfl ?_)
    | (refine Cmp.tt hli ?_)
    | (simp only [Evl.idsAll,Evl.idsO,hids,List.nil_append])
    | (refine ze8.mk (by simp;omega) ?_)
    | (refine zaf.to ih rfl rfl)
    | fail)
  ·obtain rfl:k=l.length:=by omega
   repeat' ((conv=>whnf);first
   | refine Yz ?_
    | (simp only [Evl.idsAll,Evl.idsO,hids,List.nil_append])
    | (refine Ret.mk ?_)
    | fail)
   simp
end
def z7j (ns:List (List UInt8)):List (D×V):=ns.map fun s=>(.str s,B true)
theorem z14 (s:List UInt8):∀ns:List (List UInt8),zf1 (.str s) (z7j ns)=some (if s∈ns then some (B true) else none)
 | []=>rfl
 | t::r=>by
  have ih:=z14 s r
  unfold z7j at ih ⊢
  rw [List.map_cons,zf1]
  simp only [eqD]
  by_cases h:s=t
  ·subst h;simp
  ·have e:(s==t)=false:=beq_eq_false_iff_ne.2 h
   rw [e]
   simp only [ih,List.mem_cons,h,false_or]
theorem z7c:∀ns:List (List UInt8),Evl.idsM (z7j ns)=[]
 | []=>rfl
 | _::r=>by
  show []++Evl.idsM (z7j r)=[]
  rw [z7c r];rfl
theorem z8f (s:List UInt8):∀ns:List (List UInt8),s∉ns->zqi (.str s) (B true) (z7j ns)=some (z7j (ns++[s]))
 | [],_=>rfl
 | t::r,h=>by
  have ih:=z8f s r fun hm=>h (List.mem_cons_of_mem _ hm)
  have hne:s≠t:=fun e=>h (by simp [e])
  unfold z7j at ih ⊢
  rw [List.map_cons,zqi]
  have e:(s==t)=false:=beq_eq_false_iff_ne.2 hne
  simp only [eqD,e,ih,Option.map_some,List.cons_append,List.map_cons]
open Go Go.Evl
theorem z6g {cx:Cx} {slot lo:Nat} {old m:Mem} {o:Evl.Id} {off l top:Nat} {wr:Bool} {t sz n:Nat} {xs:List D} (hlo:lo<=o.lv) (hl:Evl.look m o=some (.row wr t sz n xs)):
  Go.Evl.settle cx slot lo old m (.ref o off l top)=some (.ref ⟨cx.lv,slot,Go.Evl.freeK cx.lv slot old⟩ off l top,old++[(⟨cx.lv,slot,Go.Evl.freeK cx.lv slot old⟩,.row wr t sz n xs)]):=by
 have hr:Go.Evl.reach lo m 64 (Go.Evl.ids (.ref o off l top)) []=[o]:=by
  simp [Go.Evl.ids,Go.Evl.reach,hlo,hl,Go.Evl.idsO]
 unfold Go.Evl.settle
 simp only [hr]
 rw [if_pos (by simp [Go.Evl.within,Go.Evl.movable,Go.Evl.onceB,Go.Evl.ids,hl,hlo,Go.Evl.idsO,Go.Evl.isLoop])]
 simp [Go.Evl.number,Go.Evl.ren,Go.Evl.subst,Go.Evl.moved,hl,Go.Evl.renO]
theorem zko.row {cx:Cx} {slot lo:Nat} {old m:Mem} {o:Evl.Id} {off l top:Nat} {wr:Bool} {t sz n:Nat} {xs:List D} {K:V×Mem->Prop} (hlo:lo<=o.lv) (hl:Evl.look m o=some (.row wr t sz n xs))
  (k:K (.ref ⟨cx.lv,slot,Go.Evl.freeK cx.lv slot old⟩ off l top,old++[(⟨cx.lv,slot,Go.Evl.freeK cx.lv slot old⟩,.row wr t sz n xs)])):zko (Go.Evl.settle cx slot lo old m (.ref o off l top)) K:=⟨_,z6g hlo hl,k⟩
abbrev Unt (i:Int):V:= .d (.agg [DI i,DI (-1)])
def opC (m:Int):List D:=[DI m,DI (-1)]
theorem zym (m:Int):(opC m).length=2:=rfl
abbrev LOp (l:List Int):V:= .d (.list l.length (l.flatMap opC))
theorem yom (q:Rqt) (h:zht q.fr q.to q.da=0):(ycx q).length<=1000000:=by
 have hpz:=zf0.1 h
 have:=zhc q.fr q.da (q.to-q.fr+1).toNat
 unfold ycx z6x
 rw [List.length_map];omega
section
variable {E : Oracle} (g : Good E)
include g
theorem zy3 (l:List Wsh) (i:Nat) (hi:i<l.length) (m:Int) (h:zwk l[i].r=0) (hm:0<=m/\m<=1439):Fc E zcm [Unt i,LWi l,.d (.agg [DI m,DI (-1)])] (LMv (ycx {l[i].r with mi:=m})):=by
 refine g.fn rfl rfl ?_
 have h1:=yvj g l[i] m h hm
 have hM:(ycx {l[i].r with mi:=m}).length<=1000000:=yom _ (by
  unfold zwk at h
  rw [za5] at h
  simp only [List.mem_cons,List.not_mem_nil,or_false,forall_eq_or_imp,forall_eq,zfe] at h
  exact h.2.2.2.1)
 generalize ycx {l[i].r with mi:=m}=M at *
 have hfl:=zah Mvt.cells 7 Mvt.cells_length M
 repeat' ((conv=>whnf);first
 | refine Yz ?_
  | (apply zae.of;assumption)
  | (refine zg3.of (In.enter (f:=zcz) g.lim rfl rfl ?_))
  | (refine⟨(.fn zbz [] [.ptr ⟨0,11,0⟩ 0 0],[(⟨0,3,0⟩,.cells zba [I i,I (-1)]),(⟨0,4,0⟩,.cells zd4 [LWi l]),(⟨0,5,0⟩,.cells zak [I m,I (-1)]),(⟨0,6,0⟩,.row false zao 7 0 []),(⟨0,7,0⟩,.row false zao 7 0 []),(⟨0,7,1⟩,.cells zqr [.ref ⟨0,7,0⟩ 0 0 0]),(⟨0,11,0⟩,.cells zba [I i,I (-1)])]),rfl,?_⟩)
  | (refine In.enter (f:=zbz) g.lim rfl rfl ?_)
  | (refine Rnd.enter g.lim ?_)
  | (refine zaf.step g.lim ?_)
  | (refine zal.rec Wsh.cells_length i rfl hi ?_)
  | (refine ze8.mk ⟨rfl,rfl,rfl,rfl,rfl,hfl,by show (0+M.length)*80<=_;omega,by omega⟩ ?_)
  | (refine Ret.mk ?_)
  | fail)
 all_goals simp
theorem yl0 (l:List Wsh) (i:Nat) (hi:i<l.length) (cs:List Int) (hc:cs.length<=1000) (h:Fc E zbd [Wsv l[i]] (LI cs)):Fc E zf4 [Unt i,LWi l] (LOp cs):=by
 refine g.fn rfl rfl ?_
 repeat' ((conv=>whnf);first
 | refine Yz ?_
  | (apply zae.of;assumption)
  | (refine zal.rec Wsh.cells_length i rfl hi ?_)
  | (refine In.enter (f:=zci) g.lim rfl rfl ?_)
  | fail)
 refine zaf.to (zaf.up g (fun k=>[(1,.fn zdc [] []),(5,.ref ⟨1,5,0⟩ 0 k k),(8,LI cs),(9,I cs.length),(10,I k)])
  (fun k=>[(⟨0,2,0⟩,.cells zba [I i,I (-1)]),(⟨0,3,0⟩,.cells zd4 [LWi l]),(⟨0,4,0⟩,.row true zak 2 0 []),(⟨1,4,0⟩,.row true zak 2 0 []),(⟨1,5,0⟩,.row true zak 2 k ((cs.take k).flatMap opC))]) cs.length (fun k hk ih=> ?_) 0 (Nat.zero_le _)) rfl rfl
 have hr:=zah opC 2 zym (cs.take k)
 rw [List.length_take] at hr
 by_cases hlt:k<cs.length
 ·have ih:=ih hlt
  have e:(cs.take (k+1)).flatMap opC=(cs.take k).flatMap opC++opC cs[k]:=by
   rw [List.take_add_one,List.getElem?_eq_getElem hlt,List.flatMap_append]
   simp
  rw [e] at ih
  repeat' ((conv=>whnf);first
  | refine Yz ?_
   | (refine zg4.intI k rfl hlt ?_)
   | (refine In.enter (f:=zdc) g.lim rfl rfl ?_)
   | (refine ze8.mk (by simp;omega) ?_)
   | (refine zaf.to ih rfl rfl)
   | fail)
 ·obtain rfl:k=cs.length:=by omega
  clear ih
  rw [List.take_length]
  repeat' ((conv=>whnf);first
  | refine Yz ?_
   | (refine zko.row (by decide) rfl ?_)
   | (refine Ret.mk ?_)
   | fail)
  all_goals simp
end
def yur (l:Lmt) (ki te:List UInt8):Bool:=(decide (l.ki=[84])||decide (ki=l.ki))&&(decide (l.te=[])||decide (l.te=te))
def yu6 (l:Lmt):Int:=(l.fr+l.st-1)/l.st
def yer (l:Lmt) (d:Int) (n:Nat):List Int:=(List.range n).map fun(k:Nat)=>1440*d+l.st*(yu6 l+k)
def inP (l:Lmt) (d:Int):Bool:=decide (l.pf<=d/\d<=l.pt)&&yi2 l.pf l.pt l.pd d
def yp4 (l:Lmt) (d:Int):List Int:=if inP l d=true then yer l d (ze7 l).toNat else []
theorem yjk (l:Lmt) (d:Int) (n:Nat):yer l d (n+1)=yer l d n++[1440*d+l.st*(yu6 l+n)]:=by
 unfold yer
 rw [List.range_succ,List.map_append]
 rfl
section
variable {E : Oracle} (g : Good E)
include g
theorem ysd (l:Lmt) (h:zht l.pf l.pt l.pd=0) (d:Int) (hd:0<=d/\d<=99999):Fc E zfb [Lmv l,I d] (B (yi2 l.pf l.pt l.pd d)):=by
 refine g.fn rfl rfl ?_
 have h1:=yo6 g l.pf l.pt l.pd d h (zfe.2 hd)
 repeat' ((conv=>whnf);first
 | refine Yz ?_
  | (apply zae.of;assumption)
  | (refine Ret.mk rfl))
end
def yp5 (l:Lmt) (d:Int):V:= .d (if inP l d=true/\(ze7 l).toNat=0 then .nil else .list (yp4 l d).length ((yp4 l d).map DI))
section
variable {E : Oracle} (g : Good E)
include g
theorem ylx (l:Lmt) (m:Mvt):Fc E zji [Lmv l,Mvv m] (B (yur l m.ki m.te)):=by
 refine g.fn rfl rfl ?_
 unfold yur
 by_cases h1:l.ki=[84]
 all_goals by_cases h4:m.ki=l.ki
 all_goals by_cases h2:l.te=[]
 all_goals by_cases h3:l.te=m.te
 all_goals first |rw [decide_eq_true h1]|rw [decide_eq_false h1]
 all_goals first |rw [decide_eq_true h2]|rw [decide_eq_false h2]
 all_goals first |rw [decide_eq_true h3]|rw [decide_eq_false h3]
 all_goals first |rw [decide_eq_true h4]|rw [decide_eq_false h4]
 all_goals repeat' ((conv=>whnf);first
 | refine Yz ?_
  | (refine Cmp.tt (by assumption) ?_)
  | (refine Cmp.ff (by assumption) ?_)
  | (refine Cmp.tt (Eq.symm (by assumption)) ?_)
  | (refine Cmp.ff (Ne.symm (by assumption)) ?_)
  | (refine Ret.mk rfl)
  | fail)
theorem yo7 (l:Lmt) (h:zfz l=0) (d:Int) (hd:d<0/\ -100000<=d):Fc E zc9 [Lmv l,I d] (.tup [.d (.list 0 []),I 3]):=by
 refine g.fn rfl rfl ?_
 have h1:=ydm g l
 rw [h] at h1
 have h2:=zsb g d 0 99999
 have e:rng d 0 99999=3:=by unfold rng;rw [if_pos (.inl (by omega))]
 rw [e] at h2
 have h3:=z3e g 0 3
 change Fc E _ _ (I 3) at h3
 repeat' ((conv=>whnf);first
 | refine Yz ?_
  | (apply zae.of;assumption)
  | (refine Ret.mk rfl)
  | fail)
theorem yo8 (l:Lmt) (h:zfz l=0) (d:Int) (hd:0<=d/\d<=99999):∃e,Fc E zc9 [Lmv l,I d] (.tup [yp5 l d,I e]):=by
 refine⟨if yi2 l.pf l.pt l.pd d=true then 0 else 30,?_⟩
 refine g.fn rfl rfl ?_
 have hvz:=zkf.1 h
 have h1:=ydm g l
 rw [h] at h1
 have h2:=zsb g d 0 99999
 rw [zfe.2 hd] at h2
 have h3:=z3e g 0 0
 change Fc E _ _ (I 0) at h3
 have hhas:=ysd g l hvz.2.2.2.2.2.2.2.2.1 d hd
 cases hin:yi2 l.pf l.pt l.pd d with
 | false=>
  rw [hin] at hhas
  rw [show yp5 l d=LI [] from by simp [yp5,yp4,inP,hin]]
  repeat' ((conv=>whnf);first
  | refine Yz ?_
   | (apply zae.of;assumption)
   | (refine Ret.mk rfl)
   | fail)
 | true=>
  rw [hin] at hhas
  have a1:l.to/l.st<=l.to:=Int.ediv_le_self _ hvz.2.2.2.2.2.2.1.1
  have a2:0<=(l.fr+l.st-1)/l.st:=Int.ediv_nonneg (by omega) (by omega)
  have a3:(l.fr+l.st-1)/l.st<=l.fr+l.st-1:=Int.ediv_le_self _ (by omega)
  have a4:0<=l.to/l.st:=Int.ediv_nonneg (by omega) (by omega)
  have hpz:=zf0.1 hvz.2.2.2.2.2.2.2.2.1
  have hinb:l.pf<=d/\d<=l.pt:=by
   unfold yi2 at hin
   simp only [Bool.and_eq_true,decide_eq_true_eq] at hin
   omega
  have hst0:=zk1 h
  have hN:(if l.to/l.st-(l.fr+l.st-1)/l.st+1>0 then l.to/l.st-(l.fr+l.st-1)/l.st+1 else 0)=(((ze7 l).toNat:Nat):Int):=by
   unfold ze7 at hst0 ⊢
   split<;>omega
  have hbv:yp5 l d=if(ze7 l).toNat=0 then .d .nil else LI (yer l d (ze7 l).toNat):=by
   have hp:inP l d=true:=by simp [inP,hin];omega
   unfold yp5 yp4
   rw [if_pos hp]
   simp only [hp,true_and]
   split<;>rfl
  rw [hbv]
  by_cases h0:(ze7 l).toNat=0
  ·rw [if_pos h0]
   rw [h0] at hN
   have hz:¬(l.to/l.st-(l.fr+l.st-1)/l.st+1>0):=by
    intro hc
    rw [if_pos hc] at hN
    omega
   repeat' ((conv=>whnf);first
   | refine Yz ?_
    | (apply zae.of;assumption)
    | (refine zg3.of (In.enter (f:=zdx) g.lim rfl rfl ?_))
    | (refine⟨(.fn zbh [] [.ptr ⟨0,22,0⟩ 0 0,.ptr ⟨0,22,1⟩ 0 0],[(⟨0,2,0⟩,.cells zaj [S l.nm,S l.ki,S l.te,I l.le,I l.st,I l.fr,I l.to,I l.pf,I l.pt,I l.pd,I l.mo]),(⟨0,22,0⟩,.cells zbs [I d]),(⟨0,22,1⟩,.cells zaj [S l.nm,S l.ki,S l.te,I l.le,I l.st,I l.fr,I l.to,I l.pf,I l.pt,I l.pd,I l.mo])]),rfl,?_⟩)
    | (refine In.enter (f:=zfd) g.lim rfl rfl ?_)
    | (refine In.enter (f:=zc1) g.lim rfl rfl ?_)
    | (refine In.enter (f:=zbh) g.lim rfl rfl ?_)
    | (rw [if_neg hz])
    | (refine zaf.step g.lim ?_)
    | (refine Ret.mk rfl)
    | fail)
  ·rw [if_neg h0]
   have hb:∀n:Nat,n<(ze7 l).toNat->0<=l.st*((l.fr+l.st-1)/l.st+n)/\l.st*((l.fr+l.st-1)/l.st+n)<=1439:=fun n hln=>by
    constructor
    ·exact Int.mul_nonneg (by omega) (by omega)
    ·have e1:(l.fr+l.st-1)/l.st+n<=l.to/l.st:=by unfold ze7 at hln;omega
     have e2:l.st*((l.fr+l.st-1)/l.st+n)<=l.st*(l.to/l.st):=Int.mul_le_mul_of_nonneg_left e1 (by omega)
     have e3:l.st*(l.to/l.st)<=l.to:=Int.mul_ediv_self_le (by omega)
     omega
   have hb0:0<=l.st*((l.fr+l.st-1)/l.st+0)/\l.st*((l.fr+l.st-1)/l.st+0)<=1439:=hb 0 (by omega)
   repeat' ((conv=>whnf);first
   | refine Yz ?_
    | (apply zae.of;assumption)
    | (refine zg3.of (In.enter (f:=zdx) g.lim rfl rfl ?_))
    | (refine⟨(.fn zbh [] [.ptr ⟨0,22,0⟩ 0 0,.ptr ⟨0,22,1⟩ 0 0],[(⟨0,2,0⟩,.cells zaj [S l.nm,S l.ki,S l.te,I l.le,I l.st,I l.fr,I l.to,I l.pf,I l.pt,I l.pd,I l.mo]),(⟨0,22,0⟩,.cells zbs [I d]),(⟨0,22,1⟩,.cells zaj [S l.nm,S l.ki,S l.te,I l.le,I l.st,I l.fr,I l.to,I l.pf,I l.pt,I l.pd,I l.mo])]),rfl,?_⟩)
    | (refine In.enter (f:=zfd) g.lim rfl rfl ?_)
    | (refine In.enter (f:=zc1) g.lim rfl rfl ?_)
    | (refine In.enter (f:=zbh) g.lim rfl rfl ?_)
    | (rw [hN];refine zaf.step g.lim ?_)
    | (refine Rnd.enter g.lim ?_)
    | fail)
   refine zaf.to (zaf.up g (fun n=>[(0,.yld ⟨2,14,0⟩),(1,.ptr ⟨0,22,0⟩ 0 0),(2,.ptr ⟨0,22,1⟩ 0 0),(4,I ((l.fr+l.st-1)/l.st)),(41,I (ze7 l).toNat),(42,I (n+1:Nat))])
    (fun n=>[(⟨0,2,0⟩,.cells zaj [S l.nm,S l.ki,S l.te,I l.le,I l.st,I l.fr,I l.to,I l.pf,I l.pt,I l.pd,I l.mo]),(⟨0,22,0⟩,.cells zbs [I d]),(⟨0,22,1⟩,.cells zaj [S l.nm,S l.ki,S l.te,I l.le,I l.st,I l.fr,I l.to,I l.pf,I l.pt,I l.pd,I l.mo]),(⟨2,2,0⟩,.cells zyr [.ref ⟨2,11,0⟩ 0 (n+1) (n+1)]),(⟨2,4,0⟩,.row false zbs 1 0 []),(⟨2,14,0⟩,.loop [(2,.ptr ⟨2,2,0⟩ 0 0),(4,.ref ⟨2,4,0⟩ 0 0 0),(6,.fn zbh [] [.ptr ⟨0,22,0⟩ 0 0,.ptr ⟨0,22,1⟩ 0 0])] [7] zgc zgd 2 false false none),(⟨2,11,0⟩,.row false zbs 1 (n+1) ((yer l d (n+1)).map DI))])
    ((ze7 l).toNat-1) (fun n h2 ihn=> ?_) 0 (Nat.zero_le _)) rfl rfl
   have hr:((yer l d (n+1)).map DI).length=(n+1)*1:=by simp [yer]
   by_cases hln:n<(ze7 l).toNat-1
   ·have ihn:=ihn hln
    rw [yjk,List.map_append,List.map_cons,List.map_nil] at ihn
    have hb1:=hb (n+1) (by omega)
    generalize yer l d (n+1)=X at *
    repeat' ((conv=>whnf);first
    | refine Yz ?_
     | (refine Rnd.enter g.lim ?_)
     | (refine ze8.mk (by simp;omega) ?_)
     | (refine zaf.to ihn ?_ ?_)
     | fail)
    ·rw [show ((n+1+1:Nat):Int)=((n+1:Nat):Int)+1 from by omega]
    ·rfl
   ·have e:n+1=(ze7 l).toNat:=by omega
    clear ihn
    rw [<-e]
    have hx:(yer l d (n+1)).length=n+1:=by simp [yer]
    generalize yer l d (n+1)=X at *
    repeat' ((conv=>whnf);first
    | refine Yz ?_
     | (refine zko.row (by decide) rfl ?_)
     | (refine Ret.mk ?_)
     | fail)
    all_goals simp [hx]
end
structure Alr where
 nm:List UInt8
 mi:Int
 gr:Bool
 deriving DecidableEq
def Alr.cells (r:Alr):List D:=[.str r.nm,DI r.mi,.bool r.gr]
theorem Alr.cells_length (r:Alr):r.cells.length=3:=rfl
abbrev LRs (l:List Alr):V:= .d (.list l.length (l.flatMap Alr.cells))
def rf0 (l:List Wsh):List Alr:=l.map fun w=>⟨w.r.nm,0,false⟩
section
variable {E : Oracle} (g : Good E)
include g
theorem yhn (l:List Wsh) (hl:l.length<=64):In E 0 zev [LWi l] [] fun v m'=>v= .ref ⟨0,4,0⟩ 0 l.length l.length/\Evl.look m' ⟨0,4,0⟩=some (.row true zar 3 l.length ((rf0 l).flatMap Alr.cells)):=by
 refine In.enter (f:=zev) g.lim rfl rfl ?_
 repeat' ((conv=>whnf);first
 | refine Yz ?_
  | (refine In.enter (f:=zbg) g.lim rfl rfl ?_)
  | fail)
 refine zaf.to (zaf.up g (fun k=>[(1,.fn zfa [] []),(5,.ref ⟨1,5,0⟩ 0 k k),(8,LWi l),(9,I l.length),(10,I k)])
  (fun k=>[(⟨0,2,0⟩,.row true zar 3 0 []),(⟨1,4,0⟩,.row true zar 3 0 []),(⟨1,5,0⟩,.row true zar 3 k ((rf0 (l.take k)).flatMap Alr.cells))]) l.length (fun k hk ih=> ?_) 0 (Nat.zero_le _)) rfl rfl
 have hr:=zah Alr.cells 3 Alr.cells_length (rf0 (l.take k))
 rw [show (rf0 (l.take k)).length=k by simp [rf0];omega] at hr
 by_cases hlt:k<l.length
 ·have ih:=ih hlt
  have e:(rf0 (l.take (k+1))).flatMap Alr.cells=(rf0 (l.take k)).flatMap Alr.cells++[.str l[k].r.nm,DI 0,.bool false]:=by
   rw [List.take_add_one,List.getElem?_eq_getElem hlt,rf0,List.map_append,List.flatMap_append]
   rfl
  rw [e] at ih
  repeat' ((conv=>whnf);first
  | refine Yz ?_
   | (refine zal.rec Wsh.cells_length k rfl hlt ?_)
   | (refine In.enter (f:=zfa) g.lim rfl rfl ?_)
   | (refine ze8.mk (by simp;omega) ?_)
   | (refine zaf.to ih rfl rfl)
   | fail)
 ·obtain rfl:k=l.length:=by omega
  clear ih
  rw [List.take_length]
  repeat' ((conv=>whnf);first
  | refine Yz ?_
   | (refine zko.row (by decide) rfl ?_)
   | (exact⟨rfl,rfl⟩)
   | fail)
theorem zg3.refused (l:List Wsh) (hl:l.length<=64) {cx:Cx} {slot:Nat} {mm:Mem} {K:V->Mem->Prop} (hf:Go.Evl.freeK cx.lv slot mm=0)
  (h:K (.ref ⟨cx.lv,slot,0⟩ 0 l.length l.length) (mm++[(⟨cx.lv,slot,0⟩,.row true zar 3 l.length ((rf0 l).flatMap Alr.cells))])):zg3 E zev [LWi l] cx slot mm K:=by
 obtain⟨v,m',h1,rfl,h2⟩:=(yhn g l hl).got
 refine⟨_,_,_,h1,z6g (Nat.zero_le _) h2,?_⟩
 rw [hf];exact h
end
abbrev Wnd:=Int×Int
def ybu (l:Lmt) (d:Int):List Int:=if d<0 then [] else yp4 l d
def yst (l:Lmt) (i:Int) (mo d:Int):List Wnd:=((ybu l d).filter fun b=>decide (b<=mo/\mo<b+l.le)).map fun b=>(i,b)
def ym2 (l:Lmt) (i:Int) (x:Mvt):List Wnd:=if yur l x.ki x.te=true then yst l i x.mo (x.mo/1440-1)++yst l i x.mo (x.mo/1440) else []
def ybj (ls:List Lmt) (x:Mvt) (n:Nat):List Wnd:=(List.range n).flatMap fun i=>ym2 (ls.getD i default) i x
def z3q (ls:List Lmt) (x:Mvt):List Wnd:=ybj ls x ls.length
def zez (ls:List Lmt) (P:List Mvt):List Wnd:=P.flatMap (z3q ls)
def z4g (ls:List Lmt) (P own:List Mvt):List Wnd:=(zez ls own).filter fun w=>decide ((ls.getD w.1.toNat default).mo<(((zez ls P).count w+(zez ls own).count w:Nat):Int))
def z6w (w:Wsh):List Int:=yra w.r.mi ((w.r.mi-w.ea)/20).toNat ((w.la-w.r.mi)/20).toNat
def z3s (w:Wsh) (m:Int):List Mvt:=ycx {w.r with mi:=m}
def yew (ls:List Lmt) (P:List Mvt) (w:Wsh):Option Int:=(z6w w).find? fun m=>(z4g ls P (z3s w m)).isEmpty
def yt2 (w:Wsh):Option Int->Alr
 | some m=>⟨w.r.nm,m,true⟩
 | none=>⟨w.r.nm,0,false⟩
def yvu (w:Wsh) (P:List Mvt):Option Int->List Mvt
 | some m=>P++z3s w m
 | none=>P
def zk0 (ls:List Lmt):List Mvt->List Wsh->List Alr
 | _,[]=>[]
 | P,w::r=>yt2 w (yew ls P w)::zk0 ls (yvu w P (yew ls P w)) r
theorem zhk (ls:List Lmt):∀(P:List Mvt) (l:List Wsh),(zk0 ls P l).length=l.length
 | _,[]=>rfl
 | P,w::r=>by simp [zk0,zhk ls _ r]
theorem yba (ls:List Lmt):∀(P:List Mvt) (l:List Wsh) (k:Nat),zk0 ls P (l.take k)=(zk0 ls P l).take k
 | _,[],k=>by simp [zk0]
 | _,_::_,0=>rfl
 | P,w::r,k+1=>by simp only [List.take_succ_cons,zk0,yba ls _ r k]
theorem z9d (m:Int) (p q:Nat):∃r,yra m p q=m::r:=by
 unfold yra
 split<;>exact⟨_,rfl⟩
theorem ya9:∀(P:List Mvt) (l:List Wsh),zk0 [] P l=l.map fun w=>⟨w.r.nm,w.r.mi,true⟩
 | _,[]=>rfl
 | P,w::r=>by
  have h:yew [] P w=some w.r.mi:=by
   obtain⟨t,ht⟩:=z9d w.r.mi ((w.r.mi-w.ea)/20).toNat ((w.la-w.r.mi)/20).toNat
   unfold yew z6w
   rw [ht,List.find?_cons]
   have e:∀own,z4g [] P own=[]:=fun own=>by
    have:zez [] own=[]:=by simp [zez,z3q,ybj]
    unfold z4g
    rw [this];rfl
   rw [e];rfl
  rw [zk0,h,List.map_cons,ya9 _ r]
  rfl
def yjh (w:Wsh) (m:Int):Wsh:={w with r:={w.r with mi:=m}}
theorem ygs (ls:List Lmt):∀(P:List Mvt) (l:List Wsh) (k:Nat) (hk:k<l.length) (m:Int) (hk2:k<(zk0 ls P l).length),(zk0 ls P l)[k]=⟨l[k].r.nm,m,true⟩->
  ∀(i:Nat) (_:i<=k) (h1:i<(zk0 ls P (l.set k (yjh l[k] m))).length) (h2:i<(zk0 ls P l).length),(zk0 ls P (l.set k (yjh l[k] m)))[i]=(zk0 ls P l)[i]
 | _,[],k,hk,_,_,_,_,_,_,_=>absurd hk (Nat.not_lt_zero k)
 | P,w::r,0,_,m,_,hg,i,hi,h1,h2=>by
  obtain rfl:i=0:=by omega
  simp only [zk0,List.getElem_cons_zero,List.set_cons_zero] at hg ⊢
  have hc:yew ls P w=some m:=by
   cases h:yew ls P w with
   | none=>rw [h] at hg;simp [yt2] at hg
   | some x=>rw [h] at hg;simp only [yt2,Alr.mk.injEq] at hg;rw [hg.2.1]
  have hf:=List.find?_some hc
  have hc2:yew ls P (yjh w m)=some m:=by
   obtain⟨t,ht⟩:=z9d (yjh w m).r.mi (((yjh w m).r.mi-(yjh w m).ea)/20).toNat (((yjh w m).la-(yjh w m).r.mi)/20).toNat
   unfold yew z6w
   rw [ht,List.find?_cons]
   have:(z4g ls P (z3s (yjh w m) (yjh w m).r.mi)).isEmpty=true:=hf
   rw [this]
   rfl
  rw [hc,hc2]
  rfl
 | P,w::r,k+1,hk,m,hk2,hg,i,hi,h1,h2=>by
  simp only [zk0,List.getElem_cons_succ,List.set_cons_succ] at hg h1 h2 ⊢
  cases i with
  | zero=>simp
  | succ i=>
   simp only [List.getElem_cons_succ]
   exact ygs ls _ r k (by simpa using hk) m (by rw [zhk];simpa using hk) hg i (by omega) _ _
theorem zb4 (w:Wnd):(wndC w).length=2:=rfl
abbrev LWn (l:List Wnd):V:= .d (.list l.length (l.flatMap wndC))
def znl (es:List (Wnd×Int)):List (D×V):=es.map fun p=>(.agg [DI p.1.1,DI p.1.2],I p.2)
def zd1:List (Wnd×Int)->Wnd->Int
 | [],_=>0
 | p::r,w=>if w=p.1 then p.2 else zd1 r w
def ys1:List (Wnd×Int)->Wnd->Int->List (Wnd×Int)
 | [],w,n=>[(w,n)]
 | p::r,w,n=>if w=p.1 then(p.1,n)::r else p::ys1 r w n
theorem yfa (w v:Wnd) (n:Int):∀es,zd1 (ys1 es w n) v=if v=w then n else zd1 es v
 | []=>rfl
 | p::r=>by
  have ih:=yfa w v n r
  unfold ys1
  by_cases h:w=p.1
  ·rw [if_pos h,zd1,zd1,<-h]
   split<;>rfl
  ·rw [if_neg h,zd1,zd1,ih]
   by_cases h2:v=w
   ·rw [h2,if_neg h,if_pos rfl,if_pos rfl]
   ·rw [if_neg h2,if_neg h2]
theorem z60 (w v:Wnd):eqD (.agg [DI w.1,DI w.2]) (.agg [DI v.1,DI v.2])=some (decide (w=v)):=by
 obtain⟨a,b⟩:=w
 obtain⟨c,d⟩:=v
 by_cases h1:a=c
 ·by_cases h2:b=d
  ·simp [eqD,eqL,h1,h2]
  ·simp [eqD,eqL,h1,h2]
 ·simp [eqD,eqL,h1]
theorem z13 (w:Wnd):∀es:List (Wnd×Int),zf1 (.agg [DI w.1,DI w.2]) (znl es)=some (if w∈es.map (·.1) then some (I (zd1 es w)) else none)
 | []=>rfl
 | p::r=>by
  have ih:=z13 w r
  unfold znl at ih ⊢
  rw [List.map_cons,zf1,z60,zd1]
  by_cases h:w=p.1
  ·rw [decide_eq_true h,if_pos h]
   simp [h]
  ·rw [decide_eq_false h,if_neg h]
   simp only [ih,List.map_cons,List.mem_cons,h,false_or]
theorem z2a (w:Wnd):∀es:List (Wnd×Int),w∉es.map (·.1)->zd1 es w=0
 | [],_=>rfl
 | p::r,h=>by
  simp only [List.map_cons,List.mem_cons,not_or] at h
  rw [zd1,if_neg h.1,z2a w r h.2]
theorem ygo (w:Wnd) (n:Int):∀es:List (Wnd×Int),zqi (.agg [DI w.1,DI w.2]) (I n) (znl es)=some (znl (ys1 es w n))
 | []=>rfl
 | p::r=>by
  have ih:=ygo w n r
  unfold znl at ih ⊢
  rw [List.map_cons,zqi,z60,ys1]
  by_cases h:w=p.1
  ·rw [decide_eq_true h,if_pos h]
   rfl
  ·rw [decide_eq_false h,if_neg h]
   simp only [ih,Option.map_some,List.map_cons]
theorem znu:∀es:List (Wnd×Int),Evl.idsM (znl es)=[]
 | []=>rfl
 | _::r=>by
  show []++Evl.idsM (znl r)=[]
  rw [znu r];rfl
def yg2 (ls:List Lmt) (k:Wnd):V:=if k.2<0 then .d (.list 0 []) else yp5 (ls.getD k.1.toNat default) k.2
def zk3 (ls:List Lmt) (ks:List Wnd):List (D×V):=ks.map fun k=>(.agg [DI k.1,DI k.2],yg2 ls k)
theorem z12 (ls:List Lmt) (w:Wnd):∀ks:List Wnd,zf1 (.agg [DI w.1,DI w.2]) (zk3 ls ks)=some (if w∈ks then some (yg2 ls w) else none)
 | []=>rfl
 | k::r=>by
  have ih:=z12 ls w r
  unfold zk3 at ih ⊢
  rw [List.map_cons,zf1,z60]
  by_cases h:w=k
  ·rw [decide_eq_true h]
   simp [h]
  ·rw [decide_eq_false h]
   simp only [ih,List.mem_cons,h,false_or]
theorem z8e (ls:List Lmt) (w:Wnd):∀ks:List Wnd,w∉ks->zqi (.agg [DI w.1,DI w.2]) (yg2 ls w) (zk3 ls ks)=some (zk3 ls (ks++[w]))
 | [],_=>rfl
 | k::r,h=>by
  simp only [List.mem_cons,not_or] at h
  have ih:=z8e ls w r h.2
  unfold zk3 at ih ⊢
  rw [List.map_cons,zqi,z60,decide_eq_false h.1]
  simp only [ih,Option.map_some,List.map_cons,List.cons_append]
theorem yfd (ls:List Lmt) (k:Wnd):∃d,yg2 ls k= .d d:=by
 unfold yg2 yp5
 split<;>exact⟨_,rfl⟩
theorem znt (ls:List Lmt):∀ks:List Wnd,Evl.idsM (zk3 ls ks)=[]
 | []=>rfl
 | k::r=>by
  obtain⟨d,hd⟩:=yfd ls k
  show Evl.ids (yg2 ls k)++Evl.idsM (zk3 ls r)=[]
  rw [hd,znt ls r];rfl
theorem z6r (l:Lmt) (h:zfz l=0) (d:Int):(ybu l d).length<=1440:=by
 have:=zk1 h
 unfold ybu yp4 yer
 split
 ·simp
 ·split
  ·simp;omega
  ·simp
theorem zz7 (l:Lmt) (h:zfz l=0) (i mo d:Int):(yst l i mo d).length<=1440:=by
 have:=z6r l h d
 unfold yst
 rw [List.length_map]
 exact Nat.le_trans (List.length_filter_le _ _) this
theorem ynj (l:Lmt) (h:zfz l=0) (i:Int) (x:Mvt):(ym2 l i x).length<=2880:=by
 unfold ym2
 split
 ·rw [List.length_append]
  have h1:=zz7 l h i x.mo (x.mo/1440-1)
  have h2:=zz7 l h i x.mo (x.mo/1440)
  omega
 ·simp
theorem z81 (ls:List Lmt) (x:Mvt) (n:Nat):ybj ls x (n+1)=ybj ls x n++ym2 (ls.getD n default) n x:=by
 unfold ybj
 rw [List.range_succ,List.flatMap_append]
 simp
theorem zu7 (ls:List Lmt) (hv:∀l∈ls,zfz l=0) (x:Mvt):∀n,n<=ls.length->(ybj ls x n).length<=2880*n
 | 0,_=>by simp [ybj]
 | n+1,h=>by
  rw [z81,List.length_append]
  have h1:=zu7 ls hv x n (by omega)
  have e:ls.getD n default=ls[n]'(by omega):=by simp [List.getD,show n<ls.length by omega]
  have h2:=ynj (ls.getD n default) (by rw [e];exact hv _ (List.getElem_mem _)) n x
  omega
theorem zoz (ls:List Lmt) (hv:∀l∈ls,zfz l=0) (hl:ls.length<=3):∀P:List Mvt,(zez ls P).length<=8640*P.length
 | []=>by simp [zez]
 | x::P=>by
  have h1:=zoz ls hv hl P
  have h2:=zu7 ls hv x ls.length (Nat.le_refl _)
  unfold zez at h1 ⊢
  rw [List.flatMap_cons,List.length_append,List.length_cons]
  unfold z3q at *
  omega
mutual
theorem yas:∀d:D,zi9 d d=true
 | .int k a=>by simp [zi9]
 | .bool a=>by simp [zi9]
 | .str a=>by simp [zi9]
 | .nil=>rfl
 | .list n a=>by simp [zi9,zl4 a]
 | .agg a=>by simp [zi9,zl4 a]
 | .nilp=>rfl
 | .nilf=>rfl
 | .nili=>rfl
 | .ifc a=>by simp [zi9]
 | .nilm=>rfl
 | .fn a=>by simp [zi9]
theorem zl4:∀l:List D,zln l l=true
 | []=>rfl
 | x::r=>by simp [zln,yas x,zl4 r]
end
mutual
theorem yny:∀v:V,zsl v v=true
 | .d a=>yas a
 | .agg a=>by simp [zsl,zpd a]
 | .tup a=>by simp [zsl,zpd a]
 | .ref o a b c=>by simp [zsl]
 | .ptr o a b=>by simp [zsl]
 | .lptr a n=>by simp [zsl,zl4 a]
 | .cl n a=>by simp [zsl,zl4 a]
 | .fn f a b=>by simp [zsl,zpd a,zpd b]
 | .yld o=>by simp [zsl]
 | .mp o=>by simp [zsl]
 | .it o=>by simp [zsl]
 | .skip=>rfl
 | .undef=>rfl
theorem zpd:∀l:List V,zz0 l l=true
 | []=>rfl
 | x::r=>by simp [zz0,yny x,zpd r]
end
def yf5:Mem->Bool
 | []=>true
 | (_,o)::r=>(match o with
  | .cells .. =>true
  | .row .. =>true
  | _=>false)&&yf5 r
def zu2 (m1:Mem):Mem->Prop
 | []=>True
 | (i,o)::r=>Evl.look m1 i=some o/\zu2 m1 r
theorem yfm (m1:Mem):∀m:Mem,yf5 m=true->zu2 m1 m->z90 m1 m=true
 | [],_,_=>rfl
 | (i,o)::r,h,hk=>by
  obtain⟨h1,h2⟩:=hk
  simp only [yf5,Bool.and_eq_true] at h
  have ih:=yfm m1 r h.2 h2
  unfold z90
  rw [h1,ih,Bool.and_true]
  cases o<;>simp at h
  ·simp [ydt,zpd]
  ·simp [ydt,zl4]
structure Qs (E:Oracle) (f:Nat) (as0:List V) (m0:Mem) (r:V):Prop where
 got:In E 1 f as0 m0 fun v m1=>v=r/\zu2 m1 m0
theorem yux.of {E:Oracle} {f:Nat} {first caps args as0:List V} {m m0:Mem} {r r':V} {K:V->Prop} (is:List Evl.Id) (his:reach 0 m 64 (idsL (first ++args++caps)) []=is)
  (hc:(within is 0 (idsL (first ++args++caps))&&movable is 0 m)=true) (has:renL (number ⟨0,0⟩ 0 0 is) (first ++args++caps)=as0) (hm:moved (number ⟨0,0⟩ 0 0 is) m (number ⟨0,0⟩ 0 0 is)=m0)
  (hq:Qs E f as0 m0 r) (hp:yf5 m0=true) (hid:(ids r).all (fun i=>((number ⟨0,0⟩ 0 0 is).map (·.2)).elem i)=true) (hr:ren (znc (number ⟨0,0⟩ 0 0 is)) r=r') (hk:K r'):yux E (.fn f first caps) args m K:=by
 obtain⟨v,m1,h1,rfl,h3⟩:=hq.got
 refine⟨r',?_,hk⟩
 simp only [zwg,his,hc,if_true,has,hm,h1]
 rw [yfm m1 m0 hp h3,hid,hr]
 rfl
def zlp (l:Lmt) (i:Int) (mo:Int) (X:List Int):List Wnd:=(X.filter fun b=>decide (b<=mo/\mo<b+l.le)).map fun b=>(i,b)
theorem zz8 (l:Lmt) (i mo:Int) (X:List Int):(zlp l i mo X).length<=X.length:=by
 unfold zlp
 rw [List.length_map]
 exact List.length_filter_le _ _
theorem zu8 (l:Lmt) (i mo:Int) {X:List Int} {n:Nat} (h:n<X.length):zlp l i mo (X.take (n+1))=zlp l i mo (X.take n)++if X[n]<=mo/\mo<X[n]+l.le then [(i,X[n])] else []:=by
 unfold zlp
 rw [List.take_add_one,List.getElem?_eq_getElem h,List.filter_append,List.map_append]
 congr 1
 simp only [Option.toList_some,List.filter_cons,List.filter_nil,decide_eq_true_eq]
 split<;>rfl
def z9j (l:Lmt) (i:Int) (mo:Int):Nat->List Wnd
 | 0=>[]
 | 1=>[]++zlp l i mo (ybu l (mo/1440-1))
 | _=>[]++zlp l i mo (ybu l (mo/1440-1))++zlp l i mo (ybu l (mo/1440))
theorem ynw (l:Lmt) (h:zfz l=0) (i mo:Int) (j:Nat):(z9j l i mo j).length<=2880:=by
 have h1:=zz7 l h i mo (mo/1440-1)
 have h2:=zz7 l h i mo (mo/1440)
 unfold yst at h1 h2
 unfold z9j zlp
 split
 ·simp
 ·rw [List.nil_append];omega
 ·rw [List.nil_append,List.length_append];omega
theorem z41 (ls:List Lmt) (l:Lmt) (k:Nat) (e:ls.getD k default=l) (d:Int):yg2 ls ((k:Int),d)=LI (ybu l d)\/(yg2 ls ((k:Int),d)= .d .nil/\ybu l d=[]):=by
 unfold yg2 ybu
 dsimp only
 rw [Int.toNat_natCast,e]
 split
 ·exact .inl rfl
 ·unfold yp5
  split
  ·rename_i h
   right
   refine⟨rfl,?_⟩
   rw [yp4,if_pos h.1,h.2]
   rfl
  ·exact .inl rfl
theorem z40 (l:Lmt) (h:zfz l=0) (d:Int) (hd:d<=99999):∀b∈ybu l d,0<=b/\b<=200000000:=by
 intro b hb
 have hst0:=zk1 h
 have hvz:=zkf.1 h
 unfold ybu at hb
 split at hb
 ·simp at hb
 ·unfold yp4 at hb
  split at hb
  ·unfold yer at hb
   obtain⟨n,hn,rfl⟩:=List.mem_map.1 hb
   have hn:=List.mem_range.1 hn
   have a2:0<=(l.fr+l.st-1)/l.st:=Int.ediv_nonneg (by omega) (by omega)
   unfold yu6
   have h1:0<=l.st*((l.fr+l.st-1)/l.st+n):=Int.mul_nonneg (by omega) (by omega)
   have e1:(l.fr+l.st-1)/l.st+n<=l.to/l.st:=by unfold ze7 at hn;omega
   have e2:l.st*((l.fr+l.st-1)/l.st+n)<=l.st*(l.to/l.st):=Int.mul_le_mul_of_nonneg_left e1 (by omega)
   have e3:l.st*(l.to/l.st)<=l.to:=Int.mul_ediv_self_le (by omega)
   omega
  ·simp at hb
abbrev mvC (x:Mvt):List V:=[I x.mo,S x.ki,S x.te,I x.se,I x.si,I x.no,S x.nm]
abbrev mBd (ls:List Lmt) (ct bg:List (D×V)):Mem:=[(⟨0,0,0⟩,.cells zb1 [LLm ls,.mp ⟨0,0,1⟩,.mp ⟨0,0,2⟩]),(⟨0,0,1⟩,.map ct),(⟨0,0,2⟩,.map bg)]
structure UB (E:Oracle) (imm:Bool) (f:Nat) (ls:List Lmt) (av:List V) (es:List (Wnd×Int)) (ks:List Wnd) (Q:V->List (Wnd×Int)->List Wnd->Prop):Prop where
 got:In E 1 f (.ptr ⟨0,0,0⟩ 0 0::av) (mBd ls (znl es) (zk3 ls ks)) fun v m1=>match imm with
  | true=>ybs ⟨0,1⟩ 0 true v m1 fun v' m'=>∃es' ks',Q v' es' ks'/\zu2 m' (mBd ls (znl es') (zk3 ls ks'))
  | false=>∃es' ks',Q v es' ks'/\zu2 m1 (mBd ls (znl es') (zk3 ls ks'))
theorem yfh (m:Mem):∀av:List V,yfg av=true->av.map (z0f m)=av/\idsL av=[]/\∀σ,renL σ av=av
 | [],_=>⟨rfl,rfl,fun _=>rfl⟩
 | v::r,h=>by
  cases v<;>simp [yfg] at h
  obtain⟨h1,h2,h3⟩:=yfh m r h
  refine⟨by rw [List.map_cons,h1];rfl,by show []++idsL r=[];rw [h2];rfl,fun σ=> ?_⟩
  show _::renL σ r=_
  rw [h3 σ];rfl
theorem z27 (σ:List (Evl.Id×Evl.Id)):∀es,ydh σ (znl es)=znl es
 | []=>rfl
 | p::r=>by
  have:=z27 σ r
  unfold znl at this ⊢
  simp only [List.map_cons,ydh,this]
  rfl
theorem z26 (σ:List (Evl.Id×Evl.Id)) (ls:List Lmt):∀ks,ydh σ (zk3 ls ks)=zk3 ls ks
 | []=>rfl
 | k::r=>by
  have:=z26 σ ls r
  obtain⟨d,hd⟩:=yfd ls k
  unfold zk3 at this ⊢
  simp only [List.map_cons,ydh,this,hd]
  rfl
theorem z8s:∀(m:Mem) (i:Evl.Id) (o:Ob),Evl.look m i=some o->Evl.upd m i o=m
 | [],_,_,h=>by simp [Evl.look] at h
 | (j,x)::r,i,o,h=>by
  simp only [Evl.look] at h
  simp only [Evl.upd]
  split at h
  ·rename_i e
   rw [if_pos e,Option.some.inj h,e]
  ·rename_i e
   rw [if_neg e,z8s r i o h]
theorem UpdB.of {E:Oracle} {imm:Bool} {ls:List Lmt} {b0 b1 b2:Evl.Id} {m:Mem} {f:Nat} {first args av:List V} {es:List (Wnd×Int)} {ks:List Wnd} {Q:V->List (Wnd×Int)->List Wnd->Prop} {K:V->Mem->Prop}
  (hu:UB E imm f ls av es ks Q) (ha:first ++args= .ptr b0 0 0::av) (hd:yfg av=true) (hne:b0≠b1/\b0≠b2/\b1≠b2)
  (h0:Evl.look m b0=some (.cells zb1 [LLm ls,.mp b1,.mp b2])) (h1:Evl.look m b1=some (.map (znl es))) (h2:Evl.look m b2=some (.map (zk3 ls ks)))
  (hQ:∀v es' ks',Q v es' ks'->(∀σ,ren σ v=v)/\ids v=[])
  (hk:∀v es' ks',Q v es' ks'->zqt m b1 (.map (znl es')) fun m1=>zqt m1 b2 (.map (zk3 ls ks')) fun m2=>K v m2):z3u E imm (.fn f first []) args m K:=by
 obtain⟨n1,n2,n3⟩:=hne
 obtain⟨hf1,hf2,hf3⟩:=yfh m av hd
 have e1:(first ++args++([]:List V)).map (z0f m)= .ptr b0 0 0::av:=by rw [List.append_nil,ha,List.map_cons,hf1];rfl
 have e2:idsL (V.ptr b0 0 0::av)=[b0]:=by show [b0]++idsL av=_;rw [hf2];rfl
 have hi0:idsO (.cells zb1 [LLm ls,.mp b1,.mp b2])=[b1,b2]:=rfl
 have hi1:idsO (.map (znl es))=[]:=znu es
 have hi2:idsO (.map (zk3 ls ks))=[]:=znt ls ks
 have e3:reach 0 m 64 [b0] []=[b0,b1,b2]:=by
  show reach 0 m (60+1+1+1+1) [b0] []=_
  simp [reach,h0,h1,h2,hi0,hi1,hi2,Ne.symm n1,Ne.symm n2,Ne.symm n3]
 have e4:(within [b0,b1,b2] 0 [b0]&&movable [b0,b1,b2] 0 m)=true:=by
  simp [within,movable,onceB,h0,h1,h2,hi0,hi1,hi2,isLoop,n1,n2,n3]
 have e5:number ⟨0,0⟩ 0 0 [b0,b1,b2]=[(b0,⟨0,0,0⟩),(b1,⟨0,0,1⟩),(b2,⟨0,0,2⟩)]:=rfl
 have e6:renL [(b0,⟨0,0,0⟩),(b1,⟨0,0,1⟩),(b2,⟨0,0,2⟩)] (V.ptr b0 0 0::av)=V.ptr ⟨0,0,0⟩ 0 0::av:=by
  show _::renL _ av=_
  rw [hf3]
  simp [ren,subst]
 have e7:moved [(b0,⟨0,0,0⟩),(b1,⟨0,0,1⟩),(b2,⟨0,0,2⟩)] m [(b0,⟨0,0,0⟩),(b1,⟨0,0,1⟩),(b2,⟨0,0,2⟩)]=mBd ls (znl es) (zk3 ls ks):=by
  simp [moved,h0,h1,h2,renO,renL,ren,subst,z27,z26,n1,n2,n3]
 obtain⟨v,m1,g1,g2⟩:=hu.got
 have back:∀(mm:Mem) es' ks',zu2 mm (mBd ls (znl es') (zk3 ls ks'))->zt5 [(b0,⟨0,0,0⟩),(b1,⟨0,0,1⟩),(b2,⟨0,0,2⟩)] mm [(b0,⟨0,0,0⟩),(b1,⟨0,0,1⟩),(b2,⟨0,0,2⟩)] m=some (Evl.upd (Evl.upd m b1 (.map (znl es'))) b2 (.map (zk3 ls ks'))):=fun mm es' ks' hk=>by
  obtain⟨k0,k1,k2,_⟩:=hk
  have j1:idsO (.map (znl es'))=[]:=znu es'
  have j2:idsO (.map (zk3 ls ks'))=[]:=znt ls ks'
  have j0:idsO (.cells zb1 [LLm ls,.mp ⟨0,0,1⟩,.mp ⟨0,0,2⟩])=[⟨0,0,1⟩,⟨0,0,2⟩]:=rfl
  have r0:renL (znc [(b0,⟨0,0,0⟩),(b1,⟨0,0,1⟩),(b2,⟨0,0,2⟩)]) [LLm ls,.mp ⟨0,0,1⟩,.mp ⟨0,0,2⟩]=[LLm ls,.mp b1,.mp b2]:=by
   simp [znc,renL,ren,subst]
  simp [zt5,k0,k1,k2,okU,j0,j1,j2,r0,z8s m b0 _ h0,renO,z27,z26]
 cases imm with
 | false=>
  obtain⟨es',ks',hq,hkp⟩:=g2
  obtain⟨hr,hid⟩:=hQ v es' ks' hq
  have:=hk v es' ks' hq
  rw [zcv,zcv] at this
  refine⟨v,_,?_,this⟩
  simp only [zwh,e1,e2,e3,e4,if_true,e5,e6,e7,g1]
  rw [if_neg (by decide),hid,back m1 es' ks' hkp]
  simp [hr]
 | true=>
  obtain⟨⟨v',mm⟩,h5,h6⟩:=z6q g2
  dsimp only at h5 h6
  obtain⟨es',ks',hq,hkp⟩:=h6
  split at h5
  case isFalse=>cases h5
  rename_i h4
  obtain⟨hr,hid⟩:=hQ v' es' ks' hq
  have:=hk v' es' ks' hq
  rw [zcv,zcv] at this
  refine⟨v',_,?_,this⟩
  simp only [zwh,e1,e2,e3,e4,if_true,e5,e6,e7,g1]
  rw [show ziy 1 (zrf (mBd ls (znl es) (zk3 ls ks)))=true from rfl,show ziy 1 (idsAll (zdu 1 m1))=true from h4]
  simp only [Bool.and_self,if_true]
  rw [show znm ⟨0,1⟩ 0 1 true (zdu 1 m1) m1 v=some (v',mm) from h5]
  dsimp only
  rw [hid,back mm es' ks' hkp]
  simp [hr]
section
variable {E : Oracle} (g : Good E)
include g
theorem yqq (ls:List Lmt) (l:Lmt) (h:zfz l=0) (k:Nat) (e:ls.getD k default=l) (d:Int) (hd: -1<=d/\d<=99999):∃er,Fc E zc9 [Lmv l,I d] (.tup [yg2 ls ((k:Int),d),I er]):=by
 unfold yg2
 dsimp only
 rw [Int.toNat_natCast,e]
 by_cases hn:d<0
 ·rw [if_pos hn]
  exact⟨3,yo7 g l h d (by omega)⟩
 ·rw [if_neg hn]
  exact yo8 g l h d (by omega)
end
end Go.Proofs.YtkgcnknhkobmjaaGreatDoor.Co
