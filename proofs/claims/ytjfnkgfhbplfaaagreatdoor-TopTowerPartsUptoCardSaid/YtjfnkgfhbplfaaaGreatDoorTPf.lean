/-
  TopTowerParts: what its law leans on, part 6.
-/
import Derived.Laws.RangeAny
import Derived.Test.YtjfnkgfhbplfaaaGreatDoorRead
import Derived.Test.YtjfnkgfhbplfaaaGreatDoorSpBase
import Derived.Test.YtjfnkgfhbplfaaaGreatDoorTPe
namespace Go.Proofs.YtjfnkgfhbplfaaaGreatDoor.Co
open Go Go.Evl
def Rqt.per (q:Rqt) (p:Int×Int×Int):Rqt:={q with fr:=p.1,to:=p.2.1,da:=p.2.2}
def Lmt.per (l:Lmt) (p:Int×Int×Int):Lmt:={l with pf:=p.1,pt:=p.2.1,pd:=p.2.2}
def ypx (ev:List (Int×Int)) (i:Int):Nat:=(ev.filter fun p=>decide (p.1<=i/\i<p.2)).length
theorem ydk (i:Int):∀ev:List (Int×Int),(∀e∈ev,0<=e.1/\e.1<e.2)->ydj ev (i+1)=ypx ev i
 | [],_=>rfl
 | e::r,h=>by
  have ih:=ydk i r fun x hx=>h x (List.mem_cons_of_mem _ hx)
  have he:=h e (List.mem_cons_self ..)
  unfold ydj ypx at *
  simp only [List.filter_cons]
  by_cases c1:0<=e.1/\e.1<i+1<;>by_cases c2:0<=e.2/\e.2<i+1<;>by_cases c3:e.1<=i/\i<e.2<;>
   simp only [c1,c2,c3,and_self,decide_true,decide_false,if_true,if_false,List.length_cons,Bool.false_eq_true]<;>omega
theorem yox {l:Lmt} {m:List Mvt} {d:Int}:∀ {bs:List Int} {e:Int×Int},e∈evB l m d bs->0<=e.1/\e.1<e.2:=by
 intro bs e h
 unfold evB at h
 obtain⟨b,_,hb⟩:=List.mem_flatMap.1 h
 split at hb
 ·rename_i c
  rw [List.mem_singleton] at hb
  subst hb
  exact⟨by simp only;omega,c.2⟩
 ·cases hb
theorem yik {ls:List Lmt} {m:List Mvt} {q:Rqt} {e:Int×Int}:e∈evA ls m q↔∃l∈ls,z81 l q.ki q.te=true/\∃d∈zaq q,e∈evD l m d:=by
 unfold evA evL
 rw [List.mem_flatMap]
 constructor
 ·rintro⟨l,h1,h2⟩
  split at h2
  ·exact⟨l,h1,by assumption,List.mem_flatMap.1 h2⟩
  ·cases h2
 ·rintro⟨l,h1,h2,h3⟩
  refine⟨l,h1,?_⟩
  rw [if_pos h2]
  exact List.mem_flatMap.2 h3
theorem yow {ls:List Lmt} {m:List Mvt} {q:Rqt} {e:Int×Int} (h:e∈evA ls m q):0<=e.1/\e.1<e.2:=by
 obtain⟨l,_,_,d,_,h⟩:=yik.1 h
 rcases List.mem_append.1 h with h|h<;>exact yox h
theorem z29 (ls:List Lmt) (m:List Mvt) (q:Rqt) (hq:q.mi<=1439):zpe ls m q=true↔∀e∈evA ls m q,¬(e.1<=q.mi/\q.mi<e.2):=by
 unfold zpe yi3
 rw [ydk _ _ fun e he=>yow he]
 have h1:(ypx (evA ls m q) q.mi=0)↔∀e∈evA ls m q,¬(e.1<=q.mi/\q.mi<e.2):=by
  unfold ypx
  rw [List.length_eq_zero_iff,List.filter_eq_nil_iff]
  simp
 rw [<-h1]
 simp only [Bool.not_eq_true',Bool.and_eq_false_iff,decide_eq_false_iff_not]
 omega
theorem yfs (ls:List Lmt) (m:List Mvt) (q:Rqt) (p1 p2:Int×Int×Int) (hq:q.mi<=1439) (hd:zaq q=zaq (q.per p1)++zaq (q.per p2)):
  zpe ls m q=(zpe ls m (q.per p1)&&zpe ls m (q.per p2)):=by
 rw [Bool.eq_iff_iff,Bool.and_eq_true,z29 ls m q hq,z29 ls m (q.per p1) hq,z29 ls m (q.per p2) hq]
 simp only [yik,hd,List.mem_append]
 constructor
 ·intro h
  exact⟨fun e ⟨l,a,b,d,c,f⟩=>h e ⟨l,a,b,d,.inl c,f⟩,fun e ⟨l,a,b,d,c,f⟩=>h e ⟨l,a,b,d,.inr c,f⟩⟩
 ·rintro⟨h1,h2⟩ e ⟨l,a,b,d,c|c,f⟩
  ·exact h1 e ⟨l,a,b,d,c,f⟩
  ·exact h2 e ⟨l,a,b,d,c,f⟩
theorem yh8 {l:Lmt} {d:Int} (h:l.pf<=d/\d<=l.pt):inP l d=inM l.pd ((d+5)%7):=by
 simp [inP,yg3,h.1,h.2]
theorem ydd (l:Lmt) (p:Int×Int×Int) (d:Int) (hp:p.2.2=l.pd) (h1:p.1<=d/\d<=p.2.1) (h2:l.pf<=d/\d<=l.pt):z44 (l.per p) d=z44 l d:=by
 have e1:inP (l.per p) d=inP l d:=by
  rw [yh8 h2,yh8 (l:=l.per p) h1,<-hp];rfl
 unfold z44
 rw [e1];rfl
theorem yfc (l:Lmt) (day:Int) (h:day<=l.pt):∀j:Nat,l.pf+j<=day->z09 (l.per (l.pf,day-1,l.pd)) j=z09 l j
 | 0,_=>rfl
 | j+1,hj=>by
  rw [zkh,zkh,yfc l day h j (by omega)]
  exact congrArg _ (ydd l (l.pf,day-1,l.pd) (l.pf+j) rfl ⟨by show l.pf<=_;omega,by show _<=day-1;omega⟩ ⟨by omega,by omega⟩)
theorem yfe (l:Lmt) (day:Int) (h:l.pf<=day):∀b:Nat,day+b<=l.pt+1->z09 l ((day-l.pf).toNat+b)=z09 l (day-l.pf).toNat++z09 (l.per (day,l.pt,l.pd)) b
 | 0,_=>by simp [z09]
 | b+1,hb=>by
  rw [<-Nat.add_assoc,zkh,zkh,yfe l day h b (by omega),List.append_assoc]
  have e:l.pf+((day-l.pf).toNat+b:Nat)=day+b:=by omega
  rw [e]
  have:=ydd l (day,l.pt,l.pd) (day+b) rfl ⟨by show day<=_;omega,by show _<=l.pt;omega⟩ ⟨by omega,by omega⟩
  rw [<-this];rfl
theorem yc2 (l:Lmt) (day:Int) (h:l.pf<day/\day<=l.pt):z08 l=z08 (l.per (l.pf,day-1,l.pd))++z08 (l.per (day,l.pt,l.pd)):=by
 unfold z08
 have h1:=yfc l day h.2 (day-l.pf).toNat (by omega)
 have h2:=yfe l day (by omega) (l.pt-day+1).toNat (by omega)
 rw [show (day-l.pf).toNat+(l.pt-day+1).toNat=(l.pt-l.pf+1).toNat by omega] at h2
 rw [h2,<-h1]
 show z09 _ _++z09 _ _=z09 _ (day-1-l.pf+1).toNat++z09 _ (l.pt-day+1).toNat
 rw [show day-1-l.pf+1=day-l.pf by omega]
theorem z63 (l:Lmt) (m:List Mvt):zvi [l] m=z5l l m 0 (z08 l):=by
 simp [zvi,z8l]
theorem yhy (l:Lmt) (m:List Mvt) (day:Int) (h:l.pf<day/\day<=l.pt):zvi [l] m=zvi [l.per (l.pf,day-1,l.pd)] m++zvi [l.per (day,l.pt,l.pd)] m:=by
 rw [z63,z63,z63,yc2 l day h,zvh]
 rfl
theorem z25 (l:Lmt) (m:List Mvt) (i:Int):∀bs:List Int,(z5l l m i bs).length<=bs.length
 | []=>Nat.le_refl _
 | b::r=>by
  have:=z25 l m i r
  show (List.flatMap _ (b::r)).length<=_
  rw [List.flatMap_cons,List.length_append]
  have e:(if l.mo<z5d l m b then [(i,b,z5d l m b)] else []).length<=1:=by split<;>simp
  rw [List.length_cons]
  unfold z5l at this
  omega
theorem z4a (l:Lmt):∀j:Nat,l.pf+j<=l.pt+1->(z09 l j).length=(zce l).toNat*(zdq l.pf l.pd j).length
 | 0,_=>rfl
 | j+1,hj=>by
  rw [zkh,List.length_append,z4a l j (by omega)]
  have e:zdq l.pf l.pd (j+1)=zdq l.pf l.pd j++if inM l.pd ((l.pf+j+5)%7) then [l.pf+j] else []:=rfl
  rw [e,List.length_append,Nat.mul_add]
  congr 1
  unfold z44
  rw [yh8 ⟨by omega,by omega⟩]
  split
  ·simp [z16]
  ·rfl
theorem yps {l:Lmt} (h:zi8 l=0):((z08 l).length:Int)=z06 l:=by
 have hp:=zay.1 (zfi.1 h).2.2.2.2.2.2.2.2.1
 have h0:=zjm h
 unfold z08 z06 z87
 rw [if_pos h,z4a l _ (by omega),Int.natCast_mul,show ((zce l).toNat:Int)=zce l by omega]
theorem ye7 {l:Lmt}:∀ {ls:List Lmt},(∀x∈ls,0<=z06 x)->l∈ls->z06 l<=zfx ls
 | [],_,h=>absurd h List.not_mem_nil
 | x::r,h,hm=>by
  have h1:=h x (List.mem_cons_self ..)
  have hr:0<=zfx r:=by
   clear hm h1
   have:∀r:List Lmt,(∀x∈r,0<=z06 x)->0<=zfx r:=by
    intro r
    induction r with
    | nil=>intro _;simp [zfx]
    | cons a b ih=>
     intro h
     have h1:=h a (List.mem_cons_self ..)
     have h2:=ih fun x hx=>h x (List.mem_cons_of_mem _ hx)
     simp only [zfx];omega
   exact this r fun x hx=>h x (List.mem_cons_of_mem _ hx)
  simp only [zfx]
  rcases List.mem_cons.1 hm with rfl|hm
  ·omega
  ·have:=ye7 (fun x hx=>h x (List.mem_cons_of_mem _ hx)) hm
   omega
theorem yhx {ls:List Lmt} (hs:ls.all zlk=true) (hl:zfx ls<=400) {l:Lmt} (hm:l∈ls) (h:zi8 l=0) (m:List Mvt):(zvi [l] m).length<=400:=by
 rw [z63]
 have h1:=z25 l m 0 (z08 l)
 have h2:=yps h
 have h3:=ye7 (fun x hx=>(zvs x (List.all_eq_true.1 hs x hx)).1) hm
 omega
theorem z8y {l:Lmt} (h:zi8 l=0) {p:Int×Int×Int} (hp:ze5 p.1 p.2.1 p.2.2=0):zi8 (l.per p)=0:=by
 obtain⟨a,b,c,d,e,f,i,j,_,k⟩:=zfi.1 h
 exact zfi.2 ⟨a,b,c,d,e,f,i,j,hp,k⟩
theorem zy7 {l:Lmt} (h:zi8 l=0):zko [l]=0:=by
 simp [zko,zy6,z8x,h,za7]
theorem z5b:∀ {ls:List Lmt} {seen:List (List UInt8)},zy6 seen ls=0->∀l∈ls,zi8 l=0
 | [],_,_,l,h=>absurd h List.not_mem_nil
 | x::r,seen,h,l,hm=>by
  unfold zy6 at h
  split at h
  ·rename_i h0
   rcases List.mem_cons.1 hm with rfl|hm
   ·unfold z8x at h0
    rw [zbn] at h0
    exact h0 _ (List.mem_cons_self ..)
   ·exact z5b h l hm
  ·rename_i h0;exact absurd h h0
theorem ybb {ls:List Lmt} (h:zko ls=0):∀l∈ls,zi8 l=0:=by
 unfold zko at h
 split at h
 ·cases h
 ·exact z5b h
theorem zw7 {q:Rqt} (h:zkx q=0) {p:Int×Int×Int} (hp:ze5 p.1 p.2.1 p.2.2=0):zkx (q.per p)=0:=by
 unfold zkx at h ⊢
 rw [zbn] at h ⊢
 simp only [List.mem_cons,List.not_mem_nil,or_false,forall_eq_or_imp,forall_eq] at h ⊢
 exact⟨h.1,h.2.1,h.2.2.1,hp,h.2.2.2.2.1,h.2.2.2.2.2⟩
theorem z5c {q:Rqt} (h:zkx q=0):∀(ds:List Int) (last:Int),ds.Pairwise (·<·)->(∀d∈ds,0<=d/\d<=99999/\last<=1440*d+q.mi)->zw6 last (ds.map (yf5 q))=0
 | [],_,_,_=>rfl
 | d::r,last,hs,hm=>by
  have hh:=h
  unfold zkx at hh
  rw [zbn] at hh
  simp only [List.mem_cons,List.not_mem_nil,or_false,forall_eq_or_imp,forall_eq,zfc] at hh
  obtain⟨h1,h2,h3,_,h5,h6⟩:=hh
  have hd:=hm d (List.mem_cons_self ..)
  have hc:z0z last (yf5 q d)=0:=by
   unfold z0z zq8
   simp only [zbn,List.mem_cons,List.not_mem_nil,or_false,forall_eq_or_imp,forall_eq,zfc]
   refine⟨⟨?_,h2,h3,h6,h1⟩,?_⟩
   ·show 0<=1440*d+q.mi/\1440*d+q.mi<=143999999
    omega
   ·rw [if_neg]
    show ¬(1440*d+q.mi<last)
    omega
  rw [List.map_cons]
  unfold zw6
  rw [if_pos hc]
  rw [List.pairwise_cons] at hs
  refine z5c h r _ hs.2 fun x hx=> ?_
  have a:=hs.1 x hx
  have b:=hm x (List.mem_cons_of_mem _ hx)
  refine⟨b.1,b.2.1,?_⟩
  show 1440*d+q.mi<=_
  omega
theorem yhp {q:Rqt} (h:zkx q=0):∀d∈zaq q,0<=d/\d<=99999:=by
 unfold zkx at h
 rw [zbn] at h
 simp only [List.mem_cons,List.not_mem_nil,or_false,forall_eq_or_imp,forall_eq] at h
 have hp:=zay.1 h.2.2.2.1
 intro d hd
 have:=(zta _).1 hd
 omega
theorem ybc {q:Rqt} (h:zkx q=0) (hn:(zaq q).length<=30000):zju (zmh q)=0:=by
 unfold zju
 rw [if_neg (by unfold zmh;rw [List.length_map];omega)]
 refine z5c h _ _ (zs1 _ _ _) fun d hd=> ?_
 have h1:=yhp h d hd
 unfold zkx at h
 rw [zbn] at h
 simp only [List.mem_cons,List.not_mem_nil,or_false,forall_eq_or_imp,forall_eq,zfc] at h
 omega
theorem z1j (q:Rqt) (p:Int×Int×Int):zmh (q.per p)=(zdq p.1 p.2.2 (p.2.1-p.1+1).toNat).map (yf5 q):=rfl
theorem z2y (q:Rqt) (day:Int) (h:q.fr<day/\day<=q.to):zaq q=zaq (q.per (q.fr,day-1,q.da))++zaq (q.per (day,q.to,q.da)):=by
 have hw:=z88 q.fr q.da (day-1-q.fr+1).toNat (q.to-day+1).toNat
 rw [show (day-1-q.fr+1).toNat+(q.to-day+1).toNat=(q.to-q.fr+1).toNat by omega,show q.fr+((day-1-q.fr+1).toNat:Int)=day by omega] at hw
 exact hw
theorem yf4 (q:Rqt) (day:Int) (h:q.fr<day/\day<=q.to):zmh q=zmh (q.per (q.fr,day-1,q.da))++zmh (q.per (day,q.to,q.da)):=by
 unfold zmh
 rw [z2y q day h,List.map_append]
 rfl
theorem zvm (q:Rqt):(zmh q).Pairwise fun a b=>a.mo<b.mo:=by
 unfold zmh
 rw [List.pairwise_map]
 refine(zs1 _ _ _).imp fun {a b} h=> ?_
 show 1440*a+q.mi<1440*b+q.mi
 omega
theorem z50 (q:Rqt):((zmh q).map (·.mo)).Nodup:=by
 rw [List.Nodup,List.pairwise_map]
 exact(zvm q).imp fun h=>by omega
def twL (l:List Lmt):Bool:=decide (l.length<=3)&&((l.all zlk&&decide (zfx l<=400))&&decide (zko l=0))
def twM (m:List Mvt):Bool:=decide (m.length<=10)&&(m.all ztn&&decide (zju m=0))
theorem ygy {l:List Lmt} {k:Nat} (h:k<l.length):(l.take (k+1)).flatMap Lmt.cells=(l.take k).flatMap Lmt.cells++l[k].cells:=by
 rw [List.take_add_one,List.getElem?_eq_getElem h,List.flatMap_append]
 simp
theorem ygl {cx:Cx} {slot lo:Nat} {old m:Mem} {o:Evl.Id} {a b c t sz n:Nat} {wr:Bool} {cs:List D} {d:D} (hlo:lo<=o.lv) (hl:Evl.look m o=some (.row wr t sz n cs)):
  Go.Evl.settle cx slot lo old m (.tup [.ref o a b c,.d d])=some (.tup [.ref ⟨cx.lv,slot,Go.Evl.freeK cx.lv slot old⟩ a b c,.d d],old++[(⟨cx.lv,slot,Go.Evl.freeK cx.lv slot old⟩,.row wr t sz n cs)]):=by
 have hids:Go.Evl.ids (.tup [.ref o a b c,.d d])=[o]:=by simp [Go.Evl.ids,Go.Evl.idsL]
 have hre:Go.Evl.reach lo m 64 [o] []=[o]:=by
  simp [Go.Evl.reach,hlo,hl,Go.Evl.idsO]
 unfold Go.Evl.settle
 simp only [hids,hre]
 rw [if_pos (by simp [Go.Evl.within,Go.Evl.movable,Go.Evl.onceB,hl,hlo,Go.Evl.idsO,Go.Evl.isLoop])]
 simp [Go.Evl.number,Go.Evl.ren,Go.Evl.renL,Go.Evl.subst,Go.Evl.moved,hl,Go.Evl.renO]
section
variable {E : Oracle} (g : Good E)
include g
theorem z97 (m:List Mvt):Fc E zly [LMv m] (B (twM m)):=by
 refine g.fn rfl rfl ?_
 unfold twM
 by_cases h:m.length<=10
 ·have h1:=z01 g m h
  have h2:=zrs g m (by omega)
  rw [decide_eq_true h,Bool.true_and]
  cases hs:m.all ztn
  all_goals
   rw [hs] at h1
   repeat' ((conv=>whnf);first
   | refine Yz ?_
    | (apply zae.of;assumption)
    | (refine Cmp.mk (fun h=> ?_) (fun h=> ?_))|(refine Rem.any (by omega) (fun r hr he=> ?_))|(refine Br.mk (fun h=> ?_) (fun h=> ?_))
    | (refine Ret.mk ?_))
  all_goals simp_all
 ·rw [decide_eq_false h]
  repeat' ((conv=>whnf);first
  | refine Yz ?_
   | (refine Cmp.mk (fun h=> ?_) (fun h=> ?_))|(refine Rem.any (by omega) (fun r hr he=> ?_))|(refine Br.mk (fun h=> ?_) (fun h=> ?_))
   | (refine Ret.mk rfl))
theorem z77 (l:List Lmt) (hl:l.length<=1048576):In E 0 zfp [LLm l] [] fun v m'=>v= .tup [.ref ⟨0,4,0⟩ 0 l.length l.length,B (twL l)]/\Evl.look m' ⟨0,4,0⟩=some (.row true zab 11 l.length (l.flatMap Lmt.cells)):=by
 refine In.enter (f:=zfp) g.lim rfl rfl ?_
 repeat' ((conv=>whnf);first
 | refine Yz ?_)
 refine zad.to (zad.up g (fun k=>[(0,LLm l),(4,.ref ⟨0,4,0⟩ 0 k k),(7,LLm l),(8,I l.length),(9,I k)])
  (fun k=>[(⟨0,2,0⟩,.row true zab 11 0 []),(⟨0,4,0⟩,.row true zab 11 k ((l.take k).flatMap Lmt.cells))]) l.length (fun k hk ih=> ?_) 0 (Nat.zero_le _)) rfl rfl
 by_cases hlt:k<l.length
 ·have ih:=ih hlt
  rw [ygy hlt] at ih
  repeat' ((conv=>whnf);first
  | refine Yz ?_
   | (refine zcz.rec Lmt.cells_length k rfl hlt ?_)
   | (refine zad.to ih rfl rfl))
 ·obtain rfl:k=l.length:=by omega
  clear ih
  rw [List.take_length]
  unfold twL
  by_cases h:l.length<=3
  ·have h1:=z7y g l h
   have h2:=z7x g l (by omega)
   rw [decide_eq_true h,Bool.true_and]
   cases hs:(l.all zlk&&decide (zfx l<=400))
   all_goals
    rw [hs] at h1
    by_cases hc:zko l=0
   all_goals
    first |rw [decide_eq_true hc]|rw [decide_eq_false hc]
    repeat' ((conv=>whnf);first
    | refine Yz ?_
     | (apply zae.of;assumption)
     | (refine Cmp.ff hc ?_)
     | (refine Cmp.tt hc ?_)
     | exact⟨rfl,rfl⟩)
  ·rw [decide_eq_false h]
   repeat' ((conv=>whnf);first
   | refine Yz ?_
    | (refine Cmp.mk (fun h=> ?_) (fun h=> ?_))|(refine Rem.any (by omega) (fun r hr he=> ?_))|(refine Br.mk (fun h=> ?_) (fun h=> ?_))
    | exact⟨rfl,rfl⟩)
theorem zgx.tower (l:List Lmt) (hl:l.length<=1048576) {cx:Cx} {slot:Nat} {mm:Mem} {K:V->Mem->Prop} (hf:Go.Evl.freeK cx.lv slot mm=0)
  (h:K (.tup [.ref ⟨cx.lv,slot,0⟩ 0 l.length l.length,B (twL l)]) (mm++[(⟨cx.lv,slot,0⟩,.row true zab 11 l.length (l.flatMap Lmt.cells))])):zgx E zfp [LLm l] cx slot mm K:=by
 obtain⟨v,m',h1,rfl,h2⟩:=(z77 g l hl).got
 refine⟨_,_,_,h1,ygl (Nat.zero_le _) h2,?_⟩
 rw [hf];exact h
end
end Go.Proofs.YtjfnkgfhbplfaaaGreatDoor.Co
