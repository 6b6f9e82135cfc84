/-
  OfficeCollects: what its law leans on, part 4.
-/
import Derived.Laws.RangeAny
import Derived.Lib.SplitLaws
import Derived.Test.YtmbofbehkalgkaaGreatDoorAwR
import Derived.Test.YtmbofbehkalgkaaGreatDoorEvX
import Derived.Test.YtmbofbehkalgkaaGreatDoorEvY
import Derived.Test.YtmbofbehkalgkaaGreatDoorRead
import Derived.Test.YtmbofbehkalgkaaGreatDoorSpBase
import Derived.Test.YtmbofbehkalgkaaGreatDoorOcc
namespace Go.Proofs.YtmbofbehkalgkaaGreatDoor.Co
open Go Go.Evl
set_option maxHeartbeats 32000000
set_option maxRecDepth 100000
abbrev Grt:=List (List UInt8×Int)
def zsr (dk:List UInt8):Grt->Option Int
 | []=>none
 | (k,v)::r=>if dk=k then some v else zsr dk r
def z7k (dk:List UInt8) (x:Int):Grt->Grt
 | []=>[(dk,x)]
 | (k,v)::r=>if dk=k then(k,x)::r else(k,v)::z7k dk x r
def znk (gs:Grt):List (D×V):=gs.map fun p=>(.str p.1,I p.2)
def grA (gs:Grt) (n:Nte):Grt:=z7k n.dk (max ((zsr n.dk gs).getD 0) n.nu) gs
def grN (l:List Nte):Grt:=l.foldl grA []
theorem zxl (dk:List UInt8):∀gs:Grt,zgy (.str dk) (znk gs)=some ((zsr dk gs).map fun x=>I x)
 | []=>rfl
 | (k,v)::r=>by
  have ih:=zxl dk r
  unfold znk at ih ⊢
  rw [List.map_cons,zgy]
  unfold zsr
  by_cases h:dk=k
  ·subst h
   simp [eqD]
  ·have e:eqD (.str dk) (.str k)=some false:=by simp [eqD,h]
   simp only [e,if_neg h]
   exact ih
theorem yae (dk:List UInt8) (x:Int):∀gs:Grt,zn6 (.str dk) (I x) (znk gs)=some (znk (z7k dk x gs))
 | []=>rfl
 | (k,v)::r=>by
  have ih:=yae dk x r
  unfold znk at ih ⊢
  rw [List.map_cons,zn6]
  unfold z7k
  by_cases h:dk=k
  ·subst h
   simp [eqD]
  ·have e:eqD (.str dk) (.str k)=some false:=by simp [eqD,h]
   simp only [e,if_neg h,ih,Option.map_some,List.map_cons]
theorem zio:∀gs:Grt,Evl.idsM (znk gs)=[]
 | []=>rfl
 | _::r=>by
  show []++Evl.idsM (znk r)=[]
  rw [zio r];rfl
theorem z86 (a dk:List UInt8) (x:Int):∀gs:Grt,zsr a (z7k dk x gs)=if a=dk then some x else zsr a gs
 | []=>by
  unfold z7k zsr zsr
  rfl
 | (k,v)::r=>by
  unfold z7k
  by_cases h:dk=k
  ·subst h
   rw [if_pos rfl]
   unfold zsr
   by_cases h2:a=dk
   ·rw [if_pos h2,if_pos h2]
   ·rw [if_neg h2,if_neg h2,if_neg h2]
  ·rw [if_neg h]
   unfold zsr
   rw [z86 a dk x r]
   by_cases h2:a=k
   ·rw [if_pos h2,if_pos h2,if_neg (fun e=>h (by rw [<-e,h2]))]
   ·rw [if_neg h2,if_neg h2]
theorem zti (dk:List UInt8) (x:Int):∀gs:Grt,∀a,a∈(z7k dk x gs).map (·.1)↔a=dk\/a∈gs.map (·.1)
 | [],a=>by simp [z7k]
 | (k,v)::r,a=>by
  unfold z7k
  by_cases h:dk=k
  ·subst h
   rw [if_pos rfl]
   simp
  ·rw [if_neg h]
   simp only [List.map_cons,List.mem_cons,zti dk x r a]
   constructor
   ·rintro(h|h|h)
    ·exact .inr (.inl h)
    ·exact .inl h
    ·exact .inr (.inr h)
   ·rintro(h|h|h)
    ·exact .inr (.inl h)
    ·exact .inl h
    ·exact .inr (.inr h)
theorem z0p (dk:List UInt8) (x:Int):∀gs:Grt,(gs.map (·.1)).Nodup->((z7k dk x gs).map (·.1)).Nodup
 | [],_=>by simp [z7k]
 | (k,v)::r,h=>by
  unfold z7k
  by_cases e:dk=k
  ·subst e
   rw [if_pos rfl]
   simpa using h
  ·rw [if_neg e]
   rw [List.map_cons,List.nodup_cons] at h ⊢
   refine⟨fun hm=> ?_,z0p dk x r h.2⟩
   rcases (zti dk x r k).1 hm with e'|hm
   ·exact e e'.symm
   ·exact h.1 hm
theorem zjw {gs:Grt} (h:(gs.map (·.1)).Nodup) {a:List UInt8} {x:Int}:zsr a gs=some x↔(a,x)∈gs:=by
 induction gs with
 | nil=>simp [zsr]
 | cons p r ih=>
  obtain⟨k,v⟩:=p
  rw [List.map_cons,List.nodup_cons] at h
  unfold zsr
  by_cases e:a=k
  ·subst e
   rw [if_pos rfl]
   simp only [Option.some.injEq,List.mem_cons,Prod.mk.injEq,true_and]
   constructor
   ·intro h;exact .inl h.symm
   ·rintro(h'|h')
    ·exact h'.symm
    ·exact absurd (List.mem_map.2 ⟨_,h',rfl⟩) h.1
  ·rw [if_neg e,ih h.2]
   simp [e]
structure GrI (l:List Nte) (gs:Grt):Prop where
 one:(gs.map (·.1)).Nodup
 val:∀a x,zsr a gs=some x↔(∃n∈l,n.dk=a/\n.nu=x)/\∀n∈l,n.dk=a->n.nu<=x
theorem GrI.nil:GrI [] []:=⟨.nil,fun a x=>by simp [zsr]⟩
theorem GrI.add {l:List Nte} {gs:Grt} (h:GrI l gs) {n:Nte} (hn:1<=n.nu):GrI (l++[n]) (grA gs n):=by
 refine⟨z0p _ _ _ h.one,fun a x=> ?_⟩
 unfold grA
 rw [z86]
 by_cases e:a=n.dk
 ·subst e
  rw [if_pos rfl,Option.some.injEq]
  cases hg:zsr n.dk gs with
  | none=>
   have hno:∀m∈l,m.dk≠n.dk:=by
    intro m hm hc
    -- a greatest one among those of the desk
    have key:∀(q:List Nte),(∃m∈q,m.dk=n.dk)->∃m∈q,m.dk=n.dk/\∀o∈q,o.dk=n.dk->o.nu<=m.nu:=by
     intro q
     induction q with
     | nil=>rintro⟨_,h,_⟩;cases h
     | cons y r ih=>
      intro _
      by_cases hr:∃m∈r,m.dk=n.dk
      ·obtain⟨m,h1,h2,h3⟩:=ih hr
       by_cases hy:y.dk=n.dk/\m.nu<y.nu
       ·exact⟨y,by simp,hy.1,fun o ho hd=>by
         rcases List.mem_cons.1 ho with rfl|ho
         ·exact Int.le_refl _
         ·have:=h3 o ho hd;omega⟩
       ·exact⟨m,by simp [h1],h2,fun o ho hd=>by
         rcases List.mem_cons.1 ho with rfl|ho
         ·have:¬m.nu<o.nu:=fun hh=>hy ⟨hd,hh⟩
          omega
         ·exact h3 o ho hd⟩
      ·rename_i hx
       obtain⟨m,hm,hd⟩:=hx
       have hmy:m=y:=by
        rcases List.mem_cons.1 hm with e|hm
        ·exact e
        ·exact absurd ⟨m,hm,hd⟩ hr
       exact⟨y,by simp,hmy▸hd,fun o ho hd'=>by
        rcases List.mem_cons.1 ho with rfl|ho
        ·exact Int.le_refl _
        ·exact absurd ⟨o,ho,hd'⟩ hr⟩
    obtain⟨o,h1,h2,h3⟩:=key l ⟨m,hm,hc⟩
    have:=(h.val n.dk o.nu).2 ⟨⟨o,h1,h2,rfl⟩,h3⟩
    rw [hg] at this
    cases this
   simp only [Option.getD_none]
   constructor
   ·intro hx
    have hx:n.nu=x:=by omega
    subst hx
    refine⟨⟨n,by simp,rfl,rfl⟩,fun m hm hd=> ?_⟩
    rcases List.mem_append.1 hm with hm|hm
    ·exact absurd hd (hno m hm)
    ·rw [List.mem_singleton] at hm;rw [hm];exact Int.le_refl _
   ·rintro⟨⟨m,hm,h1,h2⟩,h3⟩
    rcases List.mem_append.1 hm with hm|hm
    ·exact absurd h1 (hno m hm)
    ·rw [List.mem_singleton] at hm
     subst hm
     omega
  | some v=>
   obtain⟨⟨o,ho1,ho2,ho3⟩,hv⟩:=(h.val n.dk v).1 hg
   simp only [Option.getD_some]
   constructor
   ·intro hx
    refine⟨?_,fun m hm hd=> ?_⟩
    ·by_cases hc:v<=n.nu
     ·exact⟨n,by simp,rfl,by omega⟩
     ·exact⟨o,by simp [ho1],ho2,by omega⟩
    ·rcases List.mem_append.1 hm with hm|hm
     ·have:=hv m hm hd;omega
     ·rw [List.mem_singleton] at hm;subst hm;omega
   ·rintro⟨⟨m,hm,h1,h2⟩,h3⟩
    have a1:=h3 n (by simp) rfl
    have a2:=h3 o (by simp [ho1]) ho2
    rcases List.mem_append.1 hm with hm|hm
    ·have:=hv m hm h1;omega
    ·rw [List.mem_singleton] at hm;subst hm;omega
 ·rw [if_neg e,h.val]
  constructor
  ·rintro⟨⟨m,hm,h1,h2⟩,h3⟩
   refine⟨⟨m,by simp [hm],h1,h2⟩,fun o ho hd=> ?_⟩
   rcases List.mem_append.1 ho with ho|ho
   ·exact h3 o ho hd
   ·rw [List.mem_singleton] at ho;subst ho;exact absurd hd.symm e
  ·rintro⟨⟨m,hm,h1,h2⟩,h3⟩
   refine⟨?_,fun o ho hd=>h3 o (by simp [ho]) hd⟩
   rcases List.mem_append.1 hm with hm|hm
   ·exact⟨m,hm,h1,h2⟩
   ·rw [List.mem_singleton] at hm;subst hm;exact absurd h1.symm e
theorem z1s:∀(r l:List Nte) (gs:Grt),GrI l gs->(∀n∈r,1<=n.nu)->GrI (l++r) (r.foldl grA gs)
 | [],l,gs,h,_=>by simpa using h
 | n::r,l,gs,h,hn=>by
  have:=z1s r (l++[n]) (grA gs n) (h.add (hn n (by simp))) fun m hm=>hn m (by simp [hm])
  simpa using this
theorem GrI.perm {a b:List Nte} {x y:Grt} (ha:GrI a x) (hb:GrI b y) (h:∀n,n∈a↔n∈b):x.Perm y:=by
 have nd:∀ {g:Grt},(g.map (·.1)).Nodup->g.Nodup:=fun h=>by
  rw [List.Nodup,List.pairwise_map] at h
  exact h.imp fun hh e=>hh (by rw [e])
 refine(List.perm_ext_iff_of_nodup (nd ha.one) (nd hb.one)).2 fun p=> ?_
 obtain⟨k,v⟩:=p
 rw [<-zjw ha.one,<-zjw hb.one,ha.val,hb.val]
 simp only [h]
theorem z40 (σ:List (Evl.Id×Evl.Id)):∀cs:List Nte,Go.Evl.renM σ (zhf cs)=zhf cs
 | []=>rfl
 | o::r=>by
  have ih:=z40 σ r
  unfold zhf at ih ⊢
  rw [List.map_cons,Go.Evl.renM,ih]
  rfl
theorem yeu {cx:Cx} {slot lo:Nat} {old m:Mem} {o:Evl.Id} {cs:List Nte} {d:D} (hlo:lo<=o.lv) (hl:Evl.look m o=some (.map (zhf cs))):
  Go.Evl.settle cx slot lo old m (.tup [.mp o,.d d])=some (.tup [.mp ⟨cx.lv,slot,Go.Evl.freeK cx.lv slot old⟩,.d d],old++[(⟨cx.lv,slot,Go.Evl.freeK cx.lv slot old⟩,.map (zhf cs))]):=by
 have hids:Go.Evl.ids (.tup [.mp o,.d d])=[o]:=by simp [Go.Evl.ids,Go.Evl.idsL]
 have hre:Go.Evl.reach lo m 64 [o] []=[o]:=by
  simp [Go.Evl.reach,hlo,hl,Go.Evl.idsO,zck]
 unfold Go.Evl.settle
 simp only [hids,hre]
 rw [if_pos (by simp [Go.Evl.within,Go.Evl.movable,Go.Evl.onceB,hl,hlo,Go.Evl.idsO,zck,Go.Evl.isLoop])]
 simp [Go.Evl.number,Go.Evl.ren,Go.Evl.renL,Go.Evl.subst,Go.Evl.moved,hl,Go.Evl.renO,z40]
def gN:List Nte->V
 | []=> .d .nil
 | x::r=>LNt (x::r)
abbrev mBg (cs:List Nte) (n:Nat):Mem:=[(⟨0,8,0⟩,.map (zhf cs)),(⟨0,15,0⟩,.cells TV [.mp ⟨0,8,0⟩]),(⟨1,4,0⟩,.row true zab 4 0 []),(⟨1,7,0⟩,.bag zab 4 n (cs.flatMap Nte.cells))]
section
variable {E : Oracle} (g : Good E)
include g
theorem zgs.collect (l:List Nte) (hl:l.length<=1048576) (hz:ze8 l=0) {cx:Cx} {slot:Nat} {mm:Mem} {K:V->Mem->Prop} (hf:Go.Evl.freeK cx.lv slot mm=0)
  (h:K (.tup [.mp ⟨cx.lv,slot,0⟩,I 0]) (mm++[(⟨cx.lv,slot,0⟩,.map (zhf (zef l)))])):zgs E zeb [LNt l] cx slot mm K:=by
 obtain⟨v,m',h1,h2,_⟩:=(yep g l hl).got
 obtain⟨rfl,h3⟩:=h2 hz
 refine⟨_,_,_,h1,yeu (Nat.zero_le _) h3,?_⟩
 rw [hf];exact h
theorem ygy (cs s:List Nte) (n slot:Nat) (hcn:cs.length=n) (hn:n<=12) (h1:z0x cs) (hp:s.Perm cs) (hs:s.Pairwise fun a b=>ztp a b=true):
  zjk (fun m=>zil E ⟨1,2⟩ slot true true (.fn zai [] []) [.ref ⟨1,7,0⟩ 0 n n,.fn zbn [] []] m) (mBg cs n) (.ref ⟨1,7,0⟩ 0 n n)=some (.tup [],mSr cs s n):=by
 subst hcn
 have hj:zgb false (mBg cs cs.length) (mSr cs s cs.length)=mSr cs s cs.length:=by
  simp [zgb,zy3]
 obtain⟨b,hb⟩:=yky g cs.length hn
 refine(z6c zh9 (xs:=cs) rfl (.tup [],mSr cs s cs.length) (fun l hl=> ?_) ?_).trans (by rw [hj])
 ·have key:Evl.callW E ⟨1,2⟩ slot true true (.fn zai [] []) [.ref ⟨1,7,0⟩ 0 cs.length cs.length,.fn zbn [] []] (mSr cs l cs.length) fun v m=>v= .tup []/\m=mSr cs s cs.length:=by
   repeat' ((conv=>whnf);first
   | refine Yz ?_
    | (apply za1.of;assumption)
    | (refine In.enter (f:=zai) g.lim rfl rfl ?_)
    | (refine Wr.u64 ?_)
    | (refine In.enter (f:=za5) g.lim rfl rfl ?_)
    | (refine zal.step g.lim ?_)
    | (refine yij g h1 hl hl.length_eq hn (fun l' hl' hs'=> ?_);rw [yai ydk ydm (hl'.trans hp.symm) hs' hs])
    | (simp only [Evl.idsAll,Evl.idsO,zck,List.nil_append])
    | (exact⟨rfl,rfl⟩)
    | (exact⟨trivial,trivial⟩)
    | fail)
  obtain⟨q,k1,k2,k3⟩:=Evl.callW_ok key
  have:(q:V×Mem)=(.tup [],mSr cs s cs.length):=Prod.ext k2 k3
  rw [<-this]
  exact k1
 ·rw [hj]
  have hb:yco 4 cs.length (s.flatMap Nte.cells) (cs.flatMap Nte.cells)=true:=z8i zh9 hp rfl
  exact LeJ.ok (.map (zns _)<| .cells<| .row<| .row .nil)
abbrev mG0:Mem:=[(⟨0,8,0⟩,.map (zhf [])),(⟨0,15,0⟩,.cells TV [.mp ⟨0,8,0⟩]),(⟨1,4,0⟩,.row true zab 4 0 [])]
theorem yez (slot:Nat):zjk (fun m=>zil E ⟨1,2⟩ slot true true (.fn zai [] []) [.d .nil,.fn zbn [] []] m) mG0 (.d .nil)=some (.tup [],mG0):=by
 obtain⟨b,hb⟩:=yky g 0 (by decide)
 have key:Evl.callW E ⟨1,2⟩ slot true true (.fn zai [] []) [.d .nil,.fn zbn [] []] mG0 fun v m=>v= .tup []/\m=mG0:=by
  repeat' ((conv=>whnf);first
  | refine Yz ?_
   | (apply za1.of;assumption)
   | (refine In.enter (f:=zai) g.lim rfl rfl ?_)
   | (refine Wr.u64 ?_)
   | (refine In.enter (f:=za5) g.lim rfl rfl ?_)
   | (refine In.enter (f:=za2) g.lim rfl rfl ?_)
   | (refine zal.step g.lim ?_)
   | (exact⟨rfl,rfl⟩)
   | (exact⟨trivial,trivial⟩)
   | fail)
 obtain⟨q,k1,k2,k3⟩:=Evl.callW_ok key
 have:(q:V×Mem)=(.tup [],mG0):=Prod.ext k2 k3
 rw [<-this]
 exact k1
theorem zwc (l:List Nte) (hl:l.length<=1048576) (hz:ze8 l=0) (h1:z0x (zef l)) (hn:(zef l).length<=12) (s:List Nte) (hp:s.Perm (zef l)) (hs:s.Pairwise fun a b=>ztp a b=true):Fc E zde [LNt l] (.tup [gN s,I 0]):=by
 refine g.fn rfl rfl ?_
 have hcl:=fun {cx slot mm K}=>zgs.collect g l hl hz (cx:=cx) (slot:=slot) (mm:=mm) (K:=K)
 generalize zef l=cs at *
 cases cs with
 | nil=>
  have hv:=yk6 (E:=E)
  have hse:s=[]:=List.Perm.eq_nil hp
  subst hse
  have hso:=yez g 10
  repeat' ((conv=>whnf);first
  | refine Yz ?_
   | (refine hcl rfl ?_)
   | (refine In.enter (f:=zam) g.lim rfl rfl ?_)
   | (refine In.enter (f:=zb1) g.lim rfl rfl ?_)
   | (refine In.enter (f:=zcm) g.lim rfl rfl ?_)
   | (refine In.enter (f:=zbc) g.lim rfl rfl ?_)
   | (refine In.enter (f:=zaf) g.lim rfl rfl ?_)
   | (refine ztq.mk ⟨(.fn zaf [] [.ptr ⟨0,15,0⟩ 0 0],[(⟨0,8,0⟩,.map (zhf [])),(⟨0,15,0⟩,.cells TV [.mp ⟨0,8,0⟩])]),rfl,?_⟩)
   | (refine ztq.mk ⟨(.d .nil,mG0++[(⟨2,2,0⟩,.row true zab 4 0 [])]),rfl,?_⟩)
   | (refine ztq.mk ⟨(.d .nil,mG0),rfl,?_⟩)
   | (refine⟨_,_,_,hv,?_⟩)
   | (refine⟨_,hso,?_⟩)
   | (refine Ret.mk rfl)
   | fail)
 | cons k kr=>
  obtain⟨x,r,rfl⟩:∃x r,s=x::r:=List.exists_cons_of_ne_nil (by rintro rfl;have:=hp.length_eq;simp at this)
  have hlr:r.length=kr.length:=by have:=hp.length_eq;simpa using this
  have hv:=ymg g k kr (by simp at hn;omega)
  have hso:=ygy g (k::kr) (x::r) (kr.length+1) 10 rfl hn h1 hp hs
  repeat' ((conv=>whnf);first
  | refine Yz ?_
   | (refine hcl rfl ?_)
   | (refine In.enter (f:=zam) g.lim rfl rfl ?_)
   | (refine In.enter (f:=zb1) g.lim rfl rfl ?_)
   | (refine In.enter (f:=zcm) g.lim rfl rfl ?_)
   | (refine In.enter (f:=zbc) g.lim rfl rfl ?_)
   | (refine In.enter (f:=zaf) g.lim rfl rfl ?_)
   | (refine ztq.mk ⟨(.fn zaf [] [.ptr ⟨0,15,0⟩ 0 0],[(⟨0,8,0⟩,.map (zhf (k::kr))),(⟨0,15,0⟩,.cells TV [.mp ⟨0,8,0⟩])]),rfl,?_⟩)
   | (refine ztq.mk ⟨(.ref ⟨2,4,0⟩ 0 (kr.length+1) (kr.length+1),[(⟨0,8,0⟩,.map (zhf (k::kr))),(⟨0,15,0⟩,.cells TV [.mp ⟨0,8,0⟩]),(⟨1,4,0⟩,.row true zab 4 0 []),(⟨2,2,0⟩,.row true zab 4 0 []),(⟨2,4,0⟩,.bag zab 4 (kr.length+1) ((k::kr).flatMap Nte.cells))]),rfl,?_⟩)
   | (refine ztq.mk ⟨(.ref ⟨1,7,0⟩ 0 (kr.length+1) (kr.length+1),mBg (k::kr) (kr.length+1)),rfl,?_⟩)
   | (simp only [Evl.idsAll,Evl.idsO,zck,List.nil_append])
   | (refine⟨_,_,_,hv,?_⟩)
   | (refine⟨_,hso,?_⟩)
   | (refine Ret.mk ?_)
   | fail)
  rw [if_pos ⟨trivial,trivial⟩,<-hlr]
  rfl
end
theorem z5p {k:D} {v:V}:∀ {l:List (D×V)},(k,v)∈l->∃r,z7z k v l=some r
 | (l,w)::r,h=>by
  unfold z7z
  by_cases e:(ziw k l&&zmn v w)=true
  ·exact⟨r,if_pos e⟩
  ·rw [if_neg e]
   rcases List.mem_cons.1 h with h|h
   ·obtain⟨rfl,rfl⟩:=Prod.mk.inj h
    exact absurd (by rw [ztg,zpw];rfl) e
   ·obtain⟨q,hq⟩:=z5p h
    exact⟨(l,w)::q,by rw [hq];rfl⟩
theorem z4w:∀ {a b:List (D×V)},a.Perm b->zs7 a b=true
 | [],b,h=>by
  have:=List.Perm.nil_eq h
  subst this
  rfl
 | (k,v)::r,b,h=>by
  have hx:(k,v)∈b:=h.subset (by simp)
  obtain⟨q,hq⟩:=z5p hx
  have h1:=zux k v b q hq
  unfold zs7
  rw [hq]
  exact z4w ((List.perm_cons _).1 (h.trans h1))
theorem zzo:∀ {gs:Grt},(gs.map (·.1)).Nodup->z3x (znk gs)=true
 | [],_=>rfl
 | (k,v)::r,h=>by
  rw [List.map_cons,List.nodup_cons] at h
  have ih:=zzo h.2
  unfold znk at ih ⊢
  rw [List.map_cons]
  unfold z3x
  rw [ih,Bool.and_true,List.all_eq_true]
  intro b hb
  obtain⟨p,hp,rfl⟩:=List.mem_map.1 hb
  have e:eqD (.str k) (.str p.1)=some false:=by
   have:k≠p.1:=fun e=>h.1 (by rw [e];exact List.mem_map.2 ⟨p,hp,rfl⟩)
   simp [eqD,this]
  rw [e]
def ofD:List D->Nte
 | [.str a,.int _ b,.int _ c,.str d]=>⟨a,b,c,d⟩
 | _=>⟨[],0,0,[]⟩
def ycm (p:List (D×V)):List Nte:=p.map fun e=>ofD (yl6 e.2)
theorem zwp (us:List Nte):ycm (zhf us)=us:=by
 unfold ycm zhf
 rw [List.map_map]
 exact(List.map_congr_left fun n _=>rfl).trans (List.map_id us)
abbrev kM (mp:Ob) (gs:Grt):Mem:=[(⟨0,2,0⟩,.row false zao 2 0 []),(⟨0,19,0⟩,mp),(⟨0,25,0⟩,.map (znk gs))]
abbrev kR (gs:Grt):Mem:=kM .gone gs++[(⟨0,27,0⟩,.gone)]
abbrev eL:Env:=[(4,.mp ⟨0,19,0⟩),(6,.mp ⟨0,25,0⟩),(27,.it ⟨0,27,0⟩)]
section
variable {E : Oracle} (g : Good E)
include g
abbrev yms:List CO:=[xq 31 30 0,tq 7 (.alloc zk6 [.z (.str []),.z (.int .i64 0)]),⟨none,none,.store 2 (.t 7) (.t 31)⟩]
abbrev bdL (E:Oracle):Env->Mem->Option (Ex×Env×Mem):=fun e m=>(zga E ⟨0,1⟩ yms e m).bind fun q=>evC E ⟨0,1⟩ zig (zb2 [30,31] q.1) q.2
omit g in
theorem yj8 {e:Env} {m:Mem} {K:Ex->Env->Mem->Prop} (h:Evl.wpOps E ⟨0,1⟩ yms e m fun e' m'=>wpC E ⟨0,1⟩ zig (zb2 [30,31] e') m' K):∃x e' m',bdL E e m=some (x,e',m')/\K x e' m':=by
 obtain⟨p,h1,h2⟩:=Evl.wpOps_ok _ _ _ _ h
 obtain⟨x,e',m',h3,h4⟩:=Evl.wpC_ok _ _ _ _ h2
 exact⟨x,e',m',by unfold bdL;rw [h1,Option.bind_some];exact h3,h4⟩
omit g in
theorem gcL (gs gs':Grt) (a b:D):gc (ziy (kR gs)) eL (kR gs'++[(⟨0,7,0⟩,.cells zk6 [.d a,.d b])])=kR gs':=by
 simp [gc,gc1,ziy,Evl.idsE,Evl.ids,Evl.idsL,Evl.idsAll,Evl.idsO,zio,List.filter]
omit g in
theorem ykw (gs:Grt) (n:Nte) (v:V):∃x e' m',bdL E (put eL 30 (.tup [.d (.agg [.str n.dk,DI n.nu]),v])) (kR gs)=some (x,e',m')/\(x= .normal/\zmn (get e' 27) (.it ⟨0,27,0⟩)=true/\only [4,6,27] e'=eL/\gc (ziy (kR gs)) eL m'=kR (grA gs n)):=by
 refine yj8 ?_
 have hf:=zxl n.dk gs
 have hs:∀o,(zsr n.dk gs).getD 0=o->zn6 (.str n.dk) (I (if n.nu>o then n.nu else o)) (znk gs)=some (znk (grA gs n)):=by
  intro o ho
  unfold grA
  rw [ho,show (if n.nu>o then n.nu else o)=max o n.nu by split<;>omega]
  exact yae n.dk _ gs
 cases hg:zsr n.dk gs with
 | none=>
  rw [hg] at hf hs
  have hs:=hs 0 rfl
  repeat' ((conv=>whnf);first
  | refine Yz ?_
   | (refine zuy.mk ⟨_,hf,?_⟩)
   | (refine yj5.mk ⟨_,hs,?_⟩)
   | (refine⟨rfl,rfl,rfl,?_⟩)
   | fail)
  exact gcL gs (grA gs n) _ _
 | some v=>
  rw [hg] at hf hs
  have hs:=hs v rfl
  repeat' ((conv=>whnf);first
  | refine Yz ?_
   | (refine zuy.mk ⟨_,hf,?_⟩)
   | (refine yj5.mk ⟨_,hs,?_⟩)
   | (refine⟨rfl,rfl,rfl,?_⟩)
   | fail)
  exact gcL gs (grA gs n) _ _
omit g in
theorem yej (gs0:Grt):∀(us:List Nte) (gs:Grt),zct (bdL E) 27 ⟨0,27,0⟩ 0 1 30 [4,6,27] (ziy (kR gs0)) (zhf us) eL (kR gs)=some (.normal,eL,kR (us.foldl grA gs))
 | [],gs=>rfl
 | p::ps,gs=>by
  obtain⟨x,e',m',h1,rfl,h2,h3,h4⟩:=ykw (E:=E) gs p (Ntv p)
  unfold zhf
  rw [List.map_cons,zct,h1,Option.bind_some]
  unfold zel
  dsimp only [Ex.on]
  have h4':gc (ziy (kR gs0)) eL m'=kR (grA gs p):=h4
  rw [if_pos h2,h3,h4']
  exact yej gs0 ps (grA gs p)
omit g in
theorem yho (cs:List Nte) (hc:∀n∈cs,1<=n.nu) {e1:Env} (he1:(Opd.t 26).ev e1= .mp ⟨0,19,0⟩) (he2:only [4,6,27] (put e1 27 (.it ⟨0,27,0⟩))=eL):
  zhy (bdL E) ⟨0,1⟩ 27 (.t 26) 0 1 30 [4,6,27] e1 (kM (.map (zhf cs)) [])=some (.normal,eL,kM (.map (zhf cs)) (grN cs)++[(⟨0,27,0⟩,.gone)]):=by
 have hj:zgb true (kR []) (kR (grN cs))=kR (grN cs):=by
  simp [zgb,z8j,zy3,Evl.look]
 have hi:=fun(us:List Nte) (hu:∀n∈us,1<=n.nu)=>z1s us [] [] GrI.nil hu
 have hcs:=hi cs hc
 refine(zqa (o:=⟨0,19,0⟩) (es:=zhf cs) he1 rfl (i:=⟨0,27,0⟩) (m2:=kR []) (e2:=eL) (e3:=eL) rfl rfl he2
  (fun p=>kR (grN (ycm p))) (fun p hp=> ?_) (mj:=kR (grN cs)) ?_ (fun p hp=> ?_) rfl).trans rfl
 ·obtain⟨us,rfl,hu⟩:=zl8 hp
  rw [show ycm (us.map fun n=>(D.agg [.str n.dk,DI n.nu],Ntv n))=us from zwp us]
  exact yej [] us []
 ·rw [zwp]
  exact hj
 ·obtain⟨us,rfl,hu⟩:=zl8 hp
  rw [show ycm (us.map fun n=>(D.agg [.str n.dk,DI n.nu],Ntv n))=us from zwp us]
  have hus:=hi us fun n hn=>hc n (hu.mem_iff.1 hn)
  have hpm:(grN us).Perm (grN cs):=GrI.perm hus hcs fun n=>by simpa using hu.mem_iff
  exact LeJ.ok (.row<| .gone<| .mapP (zzo hcs.one) (z4w (hpm.map _))<| .gone .nil)
end
theorem zyd {body:Env->Mem->Option (Ex×Env×Mem)} {cx:Cx} {it:Nat} {x:Opd} {out nxt pair:Nat} {live:List Nat} {e1:Env} {m1:Mem} {o:Evl.Id} {es:List (D×V)} (hx:x.ev e1= .mp o) (hl:Evl.look m1 o=some (.map es))
  {i:Evl.Id} {m2:Mem} {e2 e3:Env} {X:Ex} (hX:yjj X X=true) (hi:Evl.newId cx it m1=i) (hm:upd (upd m1 i .gone) o .gone=m2) (he:only live (put e1 it (.it i))=e2) {mR:Mem}
  (hr:∀p,p.Perm es->zct body it i out nxt pair live (ziy m2) p e2 m2=some (X,e3,mR)) {mj:Mem} (hj:zgb true m2 mR=mj) (hle:leM m2 mR mj=true) (hg:Evl.look mj o=some .gone):
  zhy body cx it x out nxt pair live e1 m1=some (X,e3,upd mj o (.map es)):=by
 subst hj
 unfold zhy
 simp only [hx,hl,hi,hm,he]
 unfold zor
 simp only [hr es (List.Perm.refl _),Option.bind_some]
 have hall:z8d (fun p=>zct body it i out nxt pair live (ziy m2) p e2 m2) (zrw es)=some ((zrw es).map fun _=>(X,e3,mR)):=z00 fun p hp=>hr p ((zj5 _ _).1 hp)
 rw [hall,Option.bind_some]
 unfold zp7
 rw [if_pos]
 ·simp only [Option.bind_some,zs9,hg]
 ·rw [List.all_eq_true]
  intro q hq
  obtain⟨p,hp,rfl⟩:=List.mem_map.1 hq
  dsimp only
  rw [zvy,hle,hX]
  rfl
abbrev kM2 (mp gr:Ob):Mem:=[(⟨0,2,0⟩,.row false zao 2 0 []),(⟨0,19,0⟩,mp),(⟨0,25,0⟩,gr),(⟨0,27,0⟩,.gone)]
abbrev kR2 (mp:Ob):Mem:=kM2 mp .gone++[(⟨0,43,0⟩,.gone)]
abbrev eL2:Env:=[(4,.mp ⟨0,19,0⟩),(6,.mp ⟨0,25,0⟩),(43,.it ⟨0,43,0⟩)]
section
variable {E : Oracle} (g : Good E)
include g
abbrev ymt:List CO:=[xq 47 46 1,mq 9 47]
abbrev bdM (E:Oracle):Env->Mem->Option (Ex×Env×Mem):=fun e m=>(zga E ⟨0,1⟩ ymt e m).bind fun q=>evC E ⟨0,1⟩ zih (zb2 [46,47] q.1) q.2
omit g in
theorem yhb {e:Env} {m:Mem} {K:Ex->Env->Mem->Prop} (h:Evl.wpOps E ⟨0,1⟩ ymt e m fun e' m'=>wpC E ⟨0,1⟩ zih (zb2 [46,47] e') m' K):∃x e' m',bdM E e m=some (x,e',m')/\K x e' m':=by
 obtain⟨p,h1,h2⟩:=Evl.wpOps_ok _ _ _ _ h
 obtain⟨x,e',m',h3,h4⟩:=Evl.wpC_ok _ _ _ _ h2
 exact⟨x,e',m',by unfold bdM;rw [h1,Option.bind_some];exact h3,h4⟩
omit g in
theorem yhp (cs:List Nte) (k:List UInt8) (v:Int) (hv:v<=1000):∃x e' m',bdM E (put eL2 46 (.tup [S k,I v])) (kR2 (.map (zhf cs)))=some (x,e',m')/\(x= .normal/\zmn (get e' 43) (.it ⟨0,43,0⟩)=true/\only [4,6,43] e'=eL2/\m'=kR2 (.map (zhf cs))):=by
 refine yhb ?_
 repeat' ((conv=>whnf);first
 | refine Yz ?_
  | (exact⟨rfl,rfl,rfl,rfl⟩)
  | fail)
omit g in
theorem yi9 (cs:List Nte) (k:List UInt8) (v:Int) (hv:1000<v):∃x e' m',bdM E (put eL2 46 (.tup [S k,I v])) (kR2 (.map (zhf cs)))=some (x,e',m')/\(x= .ret/\e'=[(4,.mp ⟨0,19,0⟩),(6,.mp ⟨0,25,0⟩),(43,.it ⟨0,43,0⟩),(49,B true),(2,.ref ⟨0,2,1⟩ 0 0 0),(3,I 22)]/\m'=kR2 (.map (zhf cs))++[(⟨0,2,1⟩,.row false zao 2 0 [])]):=by
 refine yhb ?_
 repeat' ((conv=>whnf);first
 | refine Yz ?_
  | (exact⟨rfl,rfl,rfl⟩)
  | fail)
omit g in
theorem gcM (mp:Ob):gc (ziy (kR2 mp)) eL2 (kR2 mp)=kR2 mp:=by
 simp [gc,gc1,ziy]
abbrev eRt:Env:=[(4,.mp ⟨0,19,0⟩),(6,.mp ⟨0,25,0⟩),(43,.it ⟨0,43,0⟩),(49,B true),(2,.ref ⟨0,2,1⟩ 0 0 0),(3,I 22)]
omit g in
theorem yek (cs:List Nte):∀gs:Grt,(∀p∈gs,p.2<=1000)->zct (bdM E) 43 ⟨0,43,0⟩ 2 3 46 [4,6,43] (ziy (kR2 (.map (zhf cs)))) (znk gs) eL2 (kR2 (.map (zhf cs)))=some (.normal,eL2,kR2 (.map (zhf cs)))
 | [],_=>rfl
 | (k,v)::r,h=>by
  obtain⟨x,e',m',h1,rfl,h2,h3,rfl⟩:=yhp (E:=E) cs k v (h (k,v) (by simp))
  unfold znk
  rw [List.map_cons,zct,h1,Option.bind_some]
  unfold zel
  dsimp only [Ex.on]
  rw [if_pos h2,h3,gcM]
  exact yek cs r fun p hp=>h p (by simp [hp])
omit g in
theorem z97 (cs:List Nte):∀gs:Grt,(∃p∈gs,1000<p.2)->zct (bdM E) 43 ⟨0,43,0⟩ 2 3 46 [4,6,43] (ziy (kR2 (.map (zhf cs)))) (znk gs) eL2 (kR2 (.map (zhf cs)))=some (zv7 2 [4,6,43] (.ret,eRt,kR2 (.map (zhf cs))++[(⟨0,2,1⟩,.row false zao 2 0 [])]))
 | [],h=>by obtain⟨_,h,_⟩:=h;cases h
 | (k,v)::r,h=>by
  unfold znk
  by_cases hv:v<=1000
  ·obtain⟨x,e',m',h1,rfl,h2,h3,rfl⟩:=yhp (E:=E) cs k v hv
   rw [List.map_cons,zct,h1,Option.bind_some]
   unfold zel
   dsimp only [Ex.on]
   rw [if_pos h2,h3,gcM]
   refine z97 cs r ?_
   obtain⟨p,hp,hlt⟩:=h
   rcases List.mem_cons.1 hp with rfl|hp
   ·exact absurd hlt (by simp only;omega)
   ·exact⟨p,hp,hlt⟩
  ·obtain⟨x,e',m',h1,rfl,rfl,rfl⟩:=yi9 (E:=E) cs k v (by omega)
   rw [List.map_cons,zct,h1,Option.bind_some]
   rfl
omit g in
theorem rangeM (cs:List Nte) (gs:Grt) (hg:∀p∈gs,p.2<=1000) {e1:Env} (he1:(Opd.t 42).ev e1= .mp ⟨0,25,0⟩) (he2:only [4,6,43] (put e1 43 (.it ⟨0,43,0⟩))=eL2):
  zhy (bdM E) ⟨0,1⟩ 43 (.t 42) 2 3 46 [4,6,43] e1 (kM2 (.map (zhf cs)) (.map (znk gs)))=some (.normal,eL2,kM2 (.map (zhf cs)) (.map (znk gs))++[(⟨0,43,0⟩,.gone)]):=by
 refine(zyd (o:=⟨0,25,0⟩) (es:=znk gs) he1 rfl (X:= .normal) rfl (i:=⟨0,43,0⟩) (m2:=kR2 (.map (zhf cs))) (e2:=eL2) (e3:=eL2) rfl rfl he2 (mR:=kR2 (.map (zhf cs))) (fun p hp=> ?_) (mj:=kR2 (.map (zhf cs))) ?_ ?_ rfl).trans rfl
 ·obtain⟨us,rfl,hu⟩:=zl8 hp
  exact yek cs us fun p hp=>hg p (hu.mem_iff.1 hp)
 ·simp [zgb,z8j,zy3,Evl.look]
 ·exact LeJ.ok (.row<| .map (zns _)<| .gone<| .gone<| .gone .nil)
omit g in
theorem yi7 (cs:List Nte) (gs:Grt) (hg:∃p∈gs,1000<p.2) {e1:Env} (he1:(Opd.t 42).ev e1= .mp ⟨0,25,0⟩) (he2:only [4,6,43] (put e1 43 (.it ⟨0,43,0⟩))=eL2):
  zhy (bdM E) ⟨0,1⟩ 43 (.t 42) 2 3 46 [4,6,43] e1 (kM2 (.map (zhf cs)) (.map (znk gs)))=some (.ret,eRt,kM2 (.map (zhf cs)) (.map (znk gs))++[(⟨0,43,0⟩,.gone),(⟨0,2,1⟩,.row false zao 2 0 [])]):=by
 refine(zyd (o:=⟨0,25,0⟩) (es:=znk gs) he1 rfl (X:= .ret) rfl (i:=⟨0,43,0⟩) (m2:=kR2 (.map (zhf cs))) (e2:=eL2) (e3:=eRt) rfl rfl he2 (mR:=kR2 (.map (zhf cs))++[(⟨0,2,1⟩,.row false zao 2 0 [])]) (fun p hp=> ?_) (mj:=kR2 (.map (zhf cs))++[(⟨0,2,1⟩,.row false zao 2 0 [])]) ?_ ?_ rfl).trans rfl
 ·obtain⟨us,rfl,hu⟩:=zl8 hp
  obtain⟨p,hp,hlt⟩:=hg
  exact z97 cs us ⟨p,hu.mem_iff.2 hp,hlt⟩
 ·simp [zgb,z8j,zy3,Evl.look]
 ·exact LeJ.ok (.row<| .map (zns _)<| .gone<| .gone<| .gone<| .row .nil)
end
abbrev yje (us:List (List UInt8)):Ob:= .row true zag 1 us.length (us.map D.str)
section
variable {E : Oracle} (g : Good E)
include g
omit g in
theorem ye9 {ks:List (List UInt8)} {p:List D} (h:p.Perm (ks.map D.str)):∃us:List (List UInt8),p=us.map D.str/\us.Perm ks:=by
 refine⟨p.map fun e=>match e with
  | .str s=>s
  | _=>[],?_,?_⟩
 ·rw [List.map_map]
  symm
  have:∀x∈p,(D.str∘fun e:D=>match e with
   | .str s=>s
   | _=>[]) x=x:=fun x hx=>by
   have:=h.subset hx
   obtain⟨k,_,rfl⟩:=List.mem_map.1 this
   rfl
  calc List.map _ p=List.map id p:=List.map_congr_left this
   _=p:=List.map_id p
 ·have h1:=h.map fun e:D=>match e with
   | .str s=>s
   | _=>[]
  refine h1.trans ?_
  rw [List.map_map]
  have:List.map ((fun e:D=>match e with
   | .str s=>s
   | _=>[])∘D.str) ks=ks:=by
   calc _=List.map id ks:=List.map_congr_left fun _ _=>rfl
    _=ks:=List.map_id ks
  rw [this]
omit g in
theorem ybq {a b:List (List UInt8)} (h:a.Perm b):zj7 a=zj7 b:=by
 have hanti:∀x y:List UInt8,zaq y x=false->zaq x y=false->x=y:=by
  intro x
  induction x with
  | nil=>intro y _ h2;cases y with
   | nil=>rfl
   | cons=>simp [zaq] at h2
  | cons c x ih=>intro y h1 h2;cases y with
   | nil=>simp [zaq] at h1
   | cons d y=>
    simp only [zaq,Bool.or_eq_false_iff,decide_eq_false_iff_not,Bool.and_eq_false_iff,beq_eq_false_iff_ne,ne_eq,UInt8.not_lt] at h1 h2
    have e:c=d:=UInt8.le_antisymm h1.1 h2.1
    subst e
    rw [ih y (h1.2.resolve_left (fun h=>h rfl)) (h2.2.resolve_left (fun h=>h rfl))]
 exact List.Perm.eq_of_pairwise (le:=fun x y=>zaq y x=false) (fun x y _ _ h1 h2=>hanti x y h1 h2) (zmf a) (zmf b) ((zfv a).trans (h.trans (zfv b).symm))
end
section
variable {E : Oracle} (g : Good E)
include g
theorem z2m (l:List Nte) (hl:l.length<=1048576) (hz:ze8 l=0) (hf:∃p∈grN (zef l),1000<p.2):∃v,Fc E zcf [LNt l] (.tup [v,I 22]):=by
 refine⟨.d (.list 0 []),?_⟩
 refine g.fn rfl rfl ?_
 have hcl:=fun {cx slot mm K}=>zgs.collect g l hl hz (cx:=cx) (slot:=slot) (mm:=mm) (K:=K)
 have hpos:∀n∈zef l,1<=n.nu:=fun n hn=>by
  have h1:=(zjl.1 hz).2.1 n ((zex hz).1 hn)
  unfold zui at h1
  rw [zcu] at h1
  have:=(@ztb n.nu 1 999999999).1 (h1 _ (by simp))
  omega
 have r1:=fun {e1} h1 h2=>yho (E:=E) (zef l) hpos (e1:=e1) h1 h2
 have r2:=fun {e1} h1 h2=>yi7 (E:=E) (zef l) (grN (zef l)) hf (e1:=e1) h1 h2
 repeat' ((conv=>whnf);first
 | refine Yz ?_
  | (refine hcl rfl ?_)
  | (refine⟨_,_,_,r1 rfl rfl,?_⟩)
  | (refine⟨_,_,_,r2 rfl rfl,?_⟩)
  | (refine Ret.mk rfl)
  | fail)
end
abbrev nB (cs:List Nte) (gr:Ob):Mem:=[(⟨0,2,0⟩,.row false zao 2 0 []),(⟨0,19,0⟩,.map (zhf cs)),(⟨0,25,0⟩,gr),(⟨0,27,0⟩,.gone),(⟨0,43,0⟩,.gone),(⟨0,10,0⟩,.row false zao 2 0 []),(⟨0,51,0⟩,.cells zjt [.mp ⟨0,25,0⟩])]
abbrev lpN:Ob:= .loop [(2,.ptr ⟨3,2,0⟩ 0 0),(4,.ref ⟨3,4,0⟩ 0 0 0),(6,.fn zaw [] [.ptr ⟨0,51,0⟩ 0 0])] [7] zdu zdv 3 false false none
abbrev nM (cs:List Nte) (gr:Ob) (s:V):Mem:=nB cs gr++[(⟨1,2,0⟩,.row true zag 1 0 []),(⟨2,2,0⟩,.row true zag 1 0 []),(⟨3,2,0⟩,.cells z0v [s]),(⟨3,4,0⟩,.row true zag 1 0 []),(⟨3,14,0⟩,lpN)]
abbrev nR0 (cs:List Nte):Mem:=nM cs .gone (.d .nil)++[(⟨4,5,0⟩,.gone)]
abbrev nR1 (cs:List Nte) (us:List (List UInt8)) (last:Ob):Mem:=nM cs .gone (.ref ⟨3,11,0⟩ 0 us.length us.length)++[(⟨4,5,0⟩,.gone),(⟨3,11,0⟩,last)]
abbrev eN:Env:=[(0,.yld ⟨3,14,0⟩),(5,.it ⟨4,5,0⟩)]
section
variable {E : Oracle} (g : Good E)
include g
abbrev bdN (E:Oracle):Env->Mem->Option (Ex×Env×Mem):=fun e m=>(zga E ⟨4,5⟩ [xq 9 8 0,mq 3 9] e m).bind fun q=>evC E ⟨4,5⟩ zbu (zb2 [8,9] q.1) q.2
omit g in
theorem yhc {e:Env} {m:Mem} {K:Ex->Env->Mem->Prop} (h:Evl.wpOps E ⟨4,5⟩ [xq 9 8 0,mq 3 9] e m fun e' m'=>wpC E ⟨4,5⟩ zbu (zb2 [8,9] e') m' K):∃x e' m',bdN E e m=some (x,e',m')/\K x e' m':=by
 obtain⟨p,h1,h2⟩:=Evl.wpOps_ok _ _ _ _ h
 obtain⟨x,e',m',h3,h4⟩:=Evl.wpC_ok _ _ _ _ h2
 exact⟨x,e',m',by unfold bdN;rw [h1,Option.bind_some];exact h3,h4⟩
theorem yja (cs:List Nte) (k:List UInt8) (v:Int):∃x e' m',bdN E (put eN 8 (.tup [S k,I v])) (nR0 cs)=some (x,e',m')/\(x= .normal/\zmn (get e' 5) (.it ⟨4,5,0⟩)=true/\only [0,5] e'=eN/\gc (ziy (nR0 cs)) eN m'=nR1 cs [k] (yje [k])):=by
 refine yhc ?_
 repeat' ((conv=>whnf);first
 | refine Yz ?_
  | (refine Rnd.enter g.lim ?_)
  | (refine zju.mk ⟨by decide,rfl,by decide,by decide⟩ ?_)
  | (refine⟨rfl,rfl,rfl,?_⟩)
  | (simp only [Evl.idsAll,Evl.idsO,zck,List.nil_append])
  | fail)
 simp [gc,gc1,ziy,Evl.idsE,Evl.ids,Evl.idsL,Evl.idsAll,Evl.idsO,zck,List.filter]
theorem yjb (cs:List Nte) (us:List (List UInt8)) (hu:us.length<=1000000) (k:List UInt8) (v:Int):∃x e' m',bdN E (put eN 8 (.tup [S k,I v])) (nR1 cs us (yje us))=some (x,e',m')/\(x= .normal/\zmn (get e' 5) (.it ⟨4,5,0⟩)=true/\only [0,5] e'=eN/\gc (ziy (nR0 cs)) eN m'=nR1 cs (us++[k]) (yje (us++[k]))):=by
 refine yhc ?_
 repeat' ((conv=>whnf);first
 | refine Yz ?_
  | (refine Rnd.enter g.lim ?_)
  | (refine zju.mk ⟨rfl,rfl,rfl,rfl,rfl,rfl,by dsimp only;omega,by first |omega|(dsimp only;omega)⟩ ?_)
  | (refine⟨rfl,rfl,rfl,?_⟩)
  | (simp only [Evl.idsAll,Evl.idsO,zck,List.nil_append])
  | fail)
 simp [gc,gc1,ziy,Evl.idsE,Evl.ids,Evl.idsL,Evl.idsAll,Evl.idsO,zck,List.filter]
theorem yel (cs:List Nte):∀(ps:Grt) (us:List (List UInt8)),us.length+ps.length<=1000000->zct (bdN E) 5 ⟨4,5,0⟩ 0 1 8 [0,5] (ziy (nR0 cs)) (znk ps) eN (nR1 cs us (yje us))=some (.normal,eN,nR1 cs (us++ps.map (·.1)) (yje (us++ps.map (·.1))))
 | [],us,_=>by
  rw [List.map_nil,List.append_nil]
  rfl
 | (p,v)::ps,us,h=>by
  rw [List.length_cons] at h
  obtain⟨x,e',m',h1,rfl,h2,h3,h4⟩:=yjb g cs us (by omega) p v
  unfold znk
  rw [List.map_cons,zct,h1,Option.bind_some]
  unfold zel
  dsimp only [Ex.on]
  rw [if_pos h2,h3,h4]
  have:=yel cs ps (us++[p]) (by rw [List.length_append,List.length_singleton];omega)
  rw [List.append_assoc] at this
  exact this
theorem ygm (cs:List Nte) (p:List UInt8) (v:Int) (ps:Grt) (hl:ps.length<=100000):zct (bdN E) 5 ⟨4,5,0⟩ 0 1 8 [0,5] (ziy (nR0 cs)) (znk ((p,v)::ps)) eN (nR0 cs)=some (.normal,eN,nR1 cs (p::ps.map (·.1)) (yje (p::ps.map (·.1)))):=by
 obtain⟨x,e',m',h1,rfl,h2,h3,h4⟩:=yja g cs p v
 unfold znk
 rw [List.map_cons,zct,h1,Option.bind_some]
 unfold zel
 dsimp only [Ex.on]
 rw [if_pos h2,h3,h4]
 exact yel g cs ps [p] (by simp;omega)
abbrev e1N:Env:=[(0,.yld ⟨3,14,0⟩),(1,.ptr ⟨0,51,0⟩ 0 0),(4,.mp ⟨0,25,0⟩)]
abbrev nRn (cs:List Nte) (gr:Ob) (n:Nat) (last:Ob):Mem:=nM cs gr (.ref ⟨3,11,0⟩ 0 n n)++[(⟨4,5,0⟩,.gone),(⟨3,11,0⟩,last)]
def ymm:D->List UInt8
 | .str s=>s
 | _=>[]
omit g in
theorem z10 (gs:Grt):(znk gs).map (fun e=>D.str (ymm e.1))=gs.map fun p=>D.str p.1:=by
 unfold znk
 rw [List.map_map]
 rfl
theorem ylz (cs:List Nte) (k:List UInt8) (v:Int) (gr:Grt) (hl:gr.length<=100000):
  zhy (bdN E) ⟨4,5⟩ 5 (.t 4) 0 1 8 [0,5] e1N (nM cs (.map (znk ((k,v)::gr))) (.d .nil))=some (.normal,eN,nRn cs (.map (znk ((k,v)::gr))) (gr.length+1) (.bag zag 1 (gr.length+1) (((k,v)::gr).map fun p=>D.str p.1))):=by
 have hj:zgb true (nR0 cs) (nRn cs .gone (gr.length+1) (.row true zag 1 (gr.length+1) (((k,v)::gr).map fun p=>D.str p.1)))=nRn cs .gone (gr.length+1) (.bag zag 1 (gr.length+1) (((k,v)::gr).map fun p=>D.str p.1)):=by
  simp [zgb,z8j,zy3,Evl.look]
 refine(zqa (o:=⟨0,25,0⟩) (es:=znk ((k,v)::gr)) rfl rfl (i:=⟨4,5,0⟩) (m2:=nR0 cs) (e2:=eN) (e3:=eN) rfl rfl rfl
  (fun p=>nRn cs .gone (gr.length+1) (.row true zag 1 (gr.length+1) (p.map fun e=>D.str (ymm e.1)))) (fun p hp=> ?_) (mj:=nRn cs .gone (gr.length+1) (.bag zag 1 (gr.length+1) (((k,v)::gr).map fun p=>D.str p.1))) ?_ (fun p hp=> ?_) rfl).trans rfl
 ·obtain⟨us,rfl,hu⟩:=zl8 hp
  have hul:us.length=gr.length+1:=hu.length_eq
  obtain⟨a,b,rfl⟩:∃a b,us=a::b:=List.exists_cons_of_ne_nil (by rintro rfl;simp at hul)
  obtain⟨a,w⟩:=a
  have h0:=ygm g cs a w b (by simp at hul;omega)
  unfold znk at h0
  rw [h0]
  have h1:=z10 ((a,w)::b)
  unfold znk at h1
  rw [h1]
  dsimp only [nR1,yje]
  simp only [List.length_cons,List.length_map] at hul ⊢
  rw [hul]
  simp only [List.map_cons,List.map_map]
  rfl
 ·rw [z10]
  exact hj
 ·obtain⟨us,rfl,hu⟩:=zl8 hp
  have h1:=z10 us
  unfold znk at h1
  rw [h1]
  have hb:yco 1 (gr.length+1) (((k,v)::gr).map fun p=>D.str p.1) (us.map fun p=>D.str p.1)=true:=yh1 (hu.symm.map _) (by rw [List.length_map];exact hu.length_eq)
  exact LeJ.ok (.row<| .map (zns _)<| .gone<| .gone<| .gone<| .row<| .cells<| .row<| .row<| .cells<| .row<| .loop rfl rfl<| .gone<| .bag hb .nil)
end
abbrev yba (cs:List Nte) (gs:Grt) (last:Ob):Mem:=nB cs (.map (znk gs))++[(⟨1,2,0⟩,.row true zag 1 0 []),(⟨1,5,0⟩,last)]
section
variable {E : Oracle} (g : Good E)
include g
theorem ygx (hx:ext n_slices_Sort_Lstring_string=some sortXS) (cs:List Nte) (gs:Grt) (ks:List (List UInt8)) (n slot:Nat) (hn:ks.length=n) (h0:n≠0) (hb:n<=100000):
  zjk (fun m=>zil E ⟨1,2⟩ slot true true (.fn n_slices_Sort_Lstring_string [] []) [.ref ⟨1,5,0⟩ 0 n n] m) (yba cs gs (.bag zag 1 n (ks.map D.str))) (.ref ⟨1,5,0⟩ 0 n n)=some (.tup [],yba cs gs (.row true zag 1 n ((zj7 ks).map D.str))):=by
 have hj:zgb false (yba cs gs (.bag zag 1 n (ks.map D.str))) (yba cs gs (.row true zag 1 n ((zj7 ks).map D.str)))=yba cs gs (.row true zag 1 n ((zj7 ks).map D.str)):=by
  simp [zgb,zy3]
 refine(zuh (n:=n) (xs:=ks.map D.str) rfl (by rw [List.length_map];exact hn) (.tup [],yba cs gs (.row true zag 1 n ((zj7 ks).map D.str))) (fun p hp=> ?_) ?_).trans (by rw [hj])
 ·obtain⟨us,rfl,hu⟩:=ye9 hp
  have hul:us.length=n:=hu.length_eq.trans hn
  have key:Evl.callW E ⟨1,2⟩ slot true true (.fn n_slices_Sort_Lstring_string [] []) [.ref ⟨1,5,0⟩ 0 n n] (yba cs gs (.row true zag 1 n (us.map D.str))) fun v m=>v= .tup []/\m=yba cs gs (.row true zag 1 n ((zj7 ks).map D.str)):=by
   repeat' ((conv=>whnf);first
   | refine Yz ?_
    | (refine In.extern (v:= .tup []) (m':=yba cs gs (.row true zag 1 n ((zj7 ks).map D.str))) g.lim hx ?_ ?_)
    | (exact⟨rfl,rfl⟩)
    | (exact⟨trivial,rfl⟩)
    | (simp only [Evl.idsAll,Evl.idsO,zck,zio,List.nil_append])
    | fail)
   rw [<-ybq hu]
   show (if n=0/\n=0/\n=0 then some (V.tup [],yba cs gs (.row true zag 1 n (us.map D.str))) else if n=n/\n=n/\n≠0/\n<4611686018427387904 then(match Evl.strsOf (us.map D.str) with
    | some zs=>some (V.tup [],upd (yba cs gs (.row true zag 1 n (us.map D.str))) ⟨1,5,0⟩ (.row true zag 1 n ((zj7 zs).map D.str)))
    | none=>none) else none)=_
   rw [if_neg (fun h=>h0 h.1),if_pos ⟨rfl,rfl,h0,by omega⟩,z0s]
   rfl
  obtain⟨q,h1,h2,h3⟩:=Evl.callW_ok key
  have:(q:V×Mem)=(.tup [],yba cs gs (.row true zag 1 n ((zj7 ks).map D.str))):=Prod.ext h2 h3
  rw [<-this]
  exact h1
 ·rw [hj]
  exact LeJ.ok (.row<| .map (zns _)<| .map (zns _)<| .gone<| .gone<| .row<| .cells<| .row<| .row .nil)
theorem ya4 (hx:ext n_slices_Sort_Lstring_string=some sortXS) (cs:List Nte) (k:List UInt8) (v:Int) (gr:Grt) (hl:gr.length<=1000) {slot:Nat} {K:V->Mem->Prop} (hK:K (Ws (zj7 (((k,v)::gr).map (·.1)))) (nB cs (.map (znk ((k,v)::gr))))):
  In E 1 zc4 [.fn zaw [] [.ptr ⟨0,51,0⟩ 0 0]] (nB cs (.map (znk ((k,v)::gr)))) fun v m'=>z57 ⟨0,1⟩ slot true v m' K:=by
 refine In.enter (f:=zc4) g.lim rfl rfl ?_
 have hs:=(zfv (((k,v)::gr).map (·.1))).length_eq
 have h1:=ylz g cs k v gr (by omega)
 have hso:=ygx g hx cs ((k,v)::gr) (((k,v)::gr).map (·.1)) (gr.length+1) 7 (by simp) (by omega) (by omega)
 rw [Ws,hs,List.length_map,List.length_cons] at hK
 rw [show ((k,v)::gr).map (fun p=>D.str p.1)=(((k,v)::gr).map (·.1)).map D.str by rw [List.map_map];rfl] at h1
 generalize (((k,v)::gr).map (·.1)).map D.str=kd at *
 repeat' ((conv=>whnf);first
 | refine Yz ?_
  | (refine In.enter (f:=zfm) g.lim rfl rfl ?_)
  | (refine In.enter (f:=zcx) g.lim rfl rfl ?_)
  | (refine In.enter (f:=zaw) g.lim rfl rfl ?_)
  | (refine⟨_,_,_,h1,?_⟩)
  | (refine ztq.mk ⟨(.ref ⟨2,4,0⟩ 0 (gr.length+1) (gr.length+1),nB cs (.map (znk ((k,v)::gr)))++[(⟨1,2,0⟩,.row true zag 1 0 []),(⟨2,2,0⟩,.row true zag 1 0 []),(⟨2,4,0⟩,.bag zag 1 (gr.length+1) kd)]),rfl,?_⟩)
  | (refine ztq.mk ⟨(.ref ⟨1,5,0⟩ 0 (gr.length+1) (gr.length+1),yba cs ((k,v)::gr) (.bag zag 1 (gr.length+1) kd)),rfl,?_⟩)
  | (refine⟨_,hso,?_⟩)
  | (refine zju.mk ⟨rfl,by omega⟩ ?_)
  | (exact hK)
  | (simp only [and_self,if_true];exact hK)
  | (simp only [Evl.idsAll,Evl.idsO,zck,zio,List.nil_append])
  | fail)
end
section
variable {E : Oracle} (g : Good E)
include g
abbrev lM (cs:List Nte) (gs:Grt) (n:Nat) (out:List D):Mem:=[(⟨0,2,0⟩,.row false zao 2 0 []),(⟨0,19,0⟩,.map (zhf cs)),(⟨0,25,0⟩,.map (znk gs)),(⟨0,27,0⟩,.gone),(⟨0,43,0⟩,.gone),(⟨0,10,0⟩,.row false zao 2 n out),(⟨0,51,0⟩,.cells zjt [.mp ⟨0,25,0⟩])]
def z4l (cs:List Nte) (d:List UInt8) (j:Nat):List Int:=((List.range j).map fun(i:Nat)=>(i:Int)+1).filter fun x=>(zrq d x cs).isNone
omit g in
theorem yds (cs:List Nte) (d:List UInt8) (j:Nat):z4l cs d (j+1)=z4l cs d j++if(zrq d ((j:Int)+1) cs).isNone=true then [(j:Int)+1] else []:=by
 unfold z4l
 rw [List.range_succ,List.map_append,List.filter_append]
 congr 1
 simp only [List.map_cons,List.map_nil,List.filter_cons,List.filter_nil]
omit g in
theorem z15 (cs:List Nte) (d:List UInt8) (j:Nat):(z4l cs d j).length<=j:=by
 unfold z4l
 refine Nat.le_trans (List.length_filter_le _ _) ?_
 simp
abbrev lM3 (cs:List Nte) (gs:Grt) (n:Nat) (out:List D) (d:List UInt8) (xs:List Int):Mem:=lM cs gs n out++[(⟨0,59,0⟩,.row false zcl 1 xs.length (xs.map DI)),(⟨0,13,0⟩,.row false zcl 1 0 []),(⟨0,13,1⟩,.cells zao [S d,.ref ⟨0,59,0⟩ 0 xs.length xs.length])]
theorem b3 (cs:List Nte) (gs:Grt) (ds:List (List UInt8)) (k:Nat) (n:Nat) (out:List D) (d:List UInt8) (G:Int) (hG:zsr d gs=some G) (hb:1<=G/\G<=1000) {K:Ex->Env->Mem->Prop}
  (hK:∀e,e=[(4,.mp ⟨0,19,0⟩),(6,.mp ⟨0,25,0⟩),(10,.ref ⟨0,10,0⟩ 0 n n),(12,S d),(13,.ptr ⟨0,13,1⟩ 0 0),(14,I G),(52,Ws ds),(53,I ds.length),(54,I k),(64,B false)]->K (.exit 6) e (lM3 cs gs n out d (z4l cs d (G-1).toNat))):
  zal E ⟨0,1⟩ [4,6,10,12,13,14,52,53,54] [⟨0,2,0⟩,⟨0,19,0⟩,⟨0,25,0⟩,⟨0,27,0⟩,⟨0,43,0⟩,⟨0,10,0⟩,⟨0,51,0⟩,⟨0,59,0⟩,⟨0,13,0⟩,⟨0,13,1⟩] zl4
   [(4,.mp ⟨0,19,0⟩),(6,.mp ⟨0,25,0⟩),(10,.ref ⟨0,10,0⟩ 0 n n),(12,S d),(13,.ptr ⟨0,13,1⟩ 0 0),(14,I 1),(52,Ws ds),(53,I ds.length),(54,I k)] (lM3 cs gs n out d []) K:=by
 refine zal.to (zal.up g (fun j=>[(4,.mp ⟨0,19,0⟩),(6,.mp ⟨0,25,0⟩),(10,.ref ⟨0,10,0⟩ 0 n n),(12,S d),(13,.ptr ⟨0,13,1⟩ 0 0),(14,I ((j:Int)+1)),(52,Ws ds),(53,I ds.length),(54,I k)])
  (fun j=>lM3 cs gs n out d (z4l cs d j)) (G-1).toNat (fun j hj ih=> ?_) 0 (Nat.zero_le _)) rfl rfl
 have hf:=zxl d gs
 rw [hG] at hf
 have hn:=zxm d ((j:Int)+1) cs
 have hml:=z15 cs d j
 by_cases hlt:j<(G-1).toNat
 ·have ih:=ih hlt
  rw [yds] at ih
  cases hg:zrq d ((j:Int)+1) cs with
  | none=>
   rw [hg] at hn ih
   simp only [Option.isNone_none,if_true,lM3] at ih
   rw [List.length_append,List.map_append] at ih
   repeat' ((conv=>whnf);first
   | refine Yz ?_
    | (refine zuy.mk ⟨_,hf,?_⟩)
    | (refine zuy.mk ⟨_,hn,?_⟩)
    | (simp only [Evl.idsAll,Evl.idsO,zck,zio,List.nil_append])
    | (refine zal.to ih (by simp) (by simp))
    | fail)
  | some o=>
   rw [hg] at hn ih
   simp only [Option.isNone_some,Bool.false_eq_true,if_false,List.append_nil] at ih
   repeat' ((conv=>whnf);first
   | refine Yz ?_
    | (refine zuy.mk ⟨_,hf,?_⟩)
    | (refine zuy.mk ⟨_,hn,?_⟩)
    | (simp only [Evl.idsAll,Evl.idsO,zck,zio,List.nil_append])
    | (refine zal.to ih (by simp) (by simp))
    | fail)
 ·obtain rfl:j=(G-1).toNat:=by omega
  have hjG:(((G-1).toNat:Nat):Int)+1=G:=by omega
  clear ih
  rw [hjG] at *
  repeat' ((conv=>whnf);first
  | refine Yz ?_
   | (refine zuy.mk ⟨_,hf,?_⟩)
   | (exact hK _ rfl)
   | fail)
def ymn (d:List UInt8) (xs:List Int):List D:=[.str d,.list xs.length (xs.map DI)]
def zyp (cs:List Nte) (gs:Grt) (ds:List (List UInt8)):List (List UInt8×List Int):=(ds.map fun d=>(d,z4l cs d (((zsr d gs).getD 0)-1).toNat)).filter fun p=> !p.2.isEmpty
abbrev ycr (p:List UInt8×List Int):List D:=ymn p.1 p.2
omit g in
theorem ydr (cs:List Nte) (gs:Grt) (ds:List (List UInt8)) (k:Nat) (hk:k<ds.length) (G:Int) (hG:zsr ds[k] gs=some G):
  zyp cs gs (ds.take (k+1))=zyp cs gs (ds.take k)++if(z4l cs ds[k] (G-1).toNat).isEmpty=true then [] else [(ds[k],z4l cs ds[k] (G-1).toNat)]:=by
 unfold zyp
 rw [List.take_add_one,List.getElem?_eq_getElem hk,List.map_append,List.filter_append]
 congr 1
 simp only [Option.toList_some,List.map_cons,List.map_nil,List.filter_cons,List.filter_nil,hG,Option.getD_some]
 cases (z4l cs ds[k] (G-1).toNat).isEmpty<;>simp
theorem b4 (cs:List Nte) (gs:Grt) (ds:List (List UInt8)) (hd:∀d∈ds,∃G,zsr d gs=some G/\1<=G/\G<=1000) (hdl:ds.length<=1000) {K:Ex->Env->Mem->Prop}
  (hK:K (.exit 4) [(4,.mp ⟨0,19,0⟩),(6,.mp ⟨0,25,0⟩),(10,.ref ⟨0,10,0⟩ 0 (zyp cs gs ds).length (zyp cs gs ds).length),(52,Ws ds),(53,I ds.length),(54,I ds.length),(55,B false)] (lM cs gs (zyp cs gs ds).length ((zyp cs gs ds).flatMap ycr))):
  zal E ⟨0,1⟩ [4,6,10,52,53,54] [⟨0,2,0⟩,⟨0,19,0⟩,⟨0,25,0⟩,⟨0,27,0⟩,⟨0,43,0⟩,⟨0,10,0⟩,⟨0,51,0⟩] zl5 [(4,.mp ⟨0,19,0⟩),(6,.mp ⟨0,25,0⟩),(10,.ref ⟨0,10,0⟩ 0 0 0),(52,Ws ds),(53,I ds.length),(54,I 0)] (lM cs gs 0 []) K:=by
 refine zal.to (zal.up g (fun k=>[(4,.mp ⟨0,19,0⟩),(6,.mp ⟨0,25,0⟩),(10,.ref ⟨0,10,0⟩ 0 (zyp cs gs (ds.take k)).length (zyp cs gs (ds.take k)).length),(52,Ws ds),(53,I ds.length),(54,I k)])
  (fun k=>lM cs gs (zyp cs gs (ds.take k)).length ((zyp cs gs (ds.take k)).flatMap ycr)) ds.length (fun k hk ih=> ?_) 0 (Nat.zero_le _)) rfl rfl
 by_cases hlt:k<ds.length
 ·have ih:=ih hlt
  obtain⟨G,hG,hb⟩:=hd ds[k] (List.getElem_mem hlt)
  rw [ydr cs gs ds k hlt G hG] at ih
  have h3:=fun {K}=>b3 g cs gs ds k (zyp cs gs (ds.take k)).length ((zyp cs gs (ds.take k)).flatMap ycr) ds[k] G hG hb (K:=K)
  have hol:(zyp cs gs (ds.take k)).length<=ds.length:=by
   unfold zyp
   refine Nat.le_trans (List.length_filter_le _ _) ?_
   rw [List.length_map,List.length_take];omega
  generalize zyp cs gs (ds.take k)=out at *
  have hml:=z15 cs ds[k] (G-1).toNat
  generalize z4l cs ds[k] (G-1).toNat=xs at *
  repeat' ((conv=>whnf);first
  | refine Yz ?_
   | (refine ziz.ws k rfl hlt ?_)
   | (refine h3 (fun e he=> ?_);subst he)
   | fail)
  cases xs with
  | nil=>
   simp only [List.isEmpty_nil,if_true,List.append_nil] at ih
   repeat' ((conv=>whnf);first
   | refine Yz ?_
    | (simp only [lM3,lM,List.cons_append,Evl.idsAll,Evl.idsO,zck,zio,List.nil_append])
    | (refine zal.to ih rfl rfl)
    | fail)
  | cons x xr=>
   simp only [List.isEmpty_cons,Bool.false_eq_true,if_false,lM] at ih
   rw [List.length_append,List.flatMap_append] at ih
   repeat' ((conv=>whnf);first
   | refine Yz ?_
    | (refine Cmp.tt (by simp only [List.length_cons];omega) ?_)
    | (simp only [List.cons_append,Evl.idsAll,Evl.idsO,zck,zio,List.nil_append])
    | (refine zju.mk ⟨trivial,trivial,trivial,trivial,trivial,rfl,by omega,by omega⟩ ?_)
    | (refine zal.to ih (by simp) (by simp [ymn]))
    | fail)
 ·obtain rfl:k=ds.length:=by omega
  clear ih
  rw [List.take_length]
  repeat' ((conv=>whnf);first
  | refine Yz ?_
   | (exact hK)
   | fail)
abbrev LMs (ms:List (List UInt8×List Int)):V:= .d (.list ms.length (ms.flatMap ycr))
theorem ybm (hx:ext n_slices_Sort_Lstring_string=some sortXS) (l:List Nte) (hl:l.length<=1048576) (hz:ze8 l=0) (hf:∀p∈grN (zef l),p.2<=1000) (k:List UInt8) (v:Int) (gr:Grt) (hg:grN (zef l)=(k,v)::gr) (hgr:gr.length<=999):
  Fc E zcf [LNt l] (.tup [LMs (zyp (zef l) (grN (zef l)) (zj7 ((grN (zef l)).map (·.1)))),I 0]):=by
 refine g.fn rfl rfl ?_
 have hcl:=fun {cx slot mm K}=>zgs.collect g l hl hz (cx:=cx) (slot:=slot) (mm:=mm) (K:=K)
 have hpos:∀n∈zef l,1<=n.nu:=fun n hn=>by
  have h1:=(zjl.1 hz).2.1 n ((zex hz).1 hn)
  unfold zui at h1
  rw [zcu] at h1
  have:=(@ztb n.nu 1 999999999).1 (h1 _ (by simp))
  omega
 have hI:=z1s (zef l) [] [] GrI.nil hpos
 have r1:=fun {e1} h1 h2=>yho (E:=E) (zef l) hpos (e1:=e1) h1 h2
 have r2:=fun {e1} h1 h2=>rangeM (E:=E) (zef l) (grN (zef l)) hf (e1:=e1) h1 h2
 have hsp:=zfv ((grN (zef l)).map (·.1))
 have hd:∀d∈zj7 ((grN (zef l)).map (·.1)),∃G,zsr d (grN (zef l))=some G/\1<=G/\G<=1000:=fun d hd=>by
  obtain⟨p,hp,rfl⟩:=List.mem_map.1 (hsp.mem_iff.1 hd)
  obtain⟨a,b⟩:=p
  have h1:=(zjw hI.one).2 hp
  obtain⟨⟨n,hn,_,h2⟩,_⟩:=(hI.val _ _).1 h1
  have h3:=hf _ hp
  have h4:=hpos n (by simpa using hn)
  exact⟨b,h1,by omega,h3⟩
 have hdl:(zj7 ((grN (zef l)).map (·.1))).length<=1000:=by
  rw [hsp.length_eq,List.length_map,hg,List.length_cons]
  omega
 have h4:=fun {K}=>b4 g (zef l) (grN (zef l)) (zj7 ((grN (zef l)).map (·.1))) hd hdl (K:=K)
 clear hd hdl hsp hI
 rw [hg] at r1 r2 h4 ⊢
 have hso:=fun {slot K}=>ya4 g hx (zef l) k v gr (by omega) (slot:=slot) (K:=K)
 generalize zef l=cs at *
 generalize hgs:(k,v)::gr=gs at *
 generalize zj7 (gs.map (·.1))=ds at *
 generalize hms:zyp cs gs ds=ms at *
 repeat' ((conv=>whnf);first
 | refine Yz ?_
  | (refine hcl rfl ?_)
  | (refine⟨_,_,_,r1 rfl rfl,?_⟩)
  | (refine⟨_,_,_,r2 rfl rfl,?_⟩)
  | (refine In.enter (f:=zb6) g.lim rfl rfl ?_)
  | (simp only [Evl.idsAll,Evl.idsO,zck,zio,List.nil_append])
  | (refine ztq.mk ⟨(.fn zaw [] [.ptr ⟨0,51,0⟩ 0 0],nB cs (.map (znk gs))),rfl,?_⟩)
  | (refine hso ?_)
  | (refine h4 ?_)
  | (refine Ret.mk ?_)
  | fail)
 exact congrArg (fun z=>V.tup [V.d (.list ms.length z),I 0]) (if_pos (by first |exact⟨trivial,trivial⟩|exact⟨trivial,rfl⟩|exact⟨rfl,trivial⟩))
theorem ybl:Fc E zcf [LNt []] (.tup [LMs [],I 0]):=g.compR 1000 (by decide+kernel)
end
theorem yad (d:List UInt8) (x:Int):∀gs:Grt,(z7k d x gs).length<=gs.length+1
 | []=>Nat.le_refl _
 | (k,v)::r=>by
  unfold z7k
  split
  ·simp
  ·have:=yad d x r
   simp only [List.length_cons]
   omega
theorem z6p:∀(l:List Nte) (gs:Grt),(l.foldl grA gs).length<=gs.length+l.length
 | [],_=>by simp
 | n::r,gs=>by
  have h1:=z6p r (grA gs n)
  have h2:(grA gs n).length<=gs.length+1:=yad _ _ _
  rw [List.foldl_cons,List.length_cons]
  omega
theorem yh6 {l:List Nte} (hz:ze8 l=0):∀n∈zef l,1<=n.nu:=fun n hn=>by
 have h1:=(zjl.1 hz).2.1 n ((zex hz).1 hn)
 unfold zui at h1
 rw [zcu] at h1
 have:=(@ztb n.nu 1 999999999).1 (h1 _ (by simp))
 omega
theorem z4a {l:List Nte} (hz:ze8 l=0):GrI (zef l) (grN (zef l)):=z1s (zef l) [] [] GrI.nil (yh6 hz)
def zop (ms:List (List UInt8×List Int)):List Nte:=ms.flatMap fun p=>p.2.map fun n=>⟨p.1,n,5,[120]⟩
def zu3 (l:List Nte):List (List UInt8×List Int):=zyp (zef l) (grN (zef l)) (zj7 ((grN (zef l)).map (·.1)))
theorem z9o {cs:List Nte} {d:List UInt8} {j:Nat} {x:Int}:x∈z4l cs d j↔1<=x/\x<=j/\zrq d x cs=none:=by
 unfold z4l
 rw [List.mem_filter,List.mem_map]
 constructor
 ·rintro⟨⟨i,hi,rfl⟩,h⟩
  rw [List.mem_range] at hi
  exact⟨by omega,by omega,by simpa using h⟩
 ·rintro⟨h1,h2,h3⟩
  exact⟨⟨(x-1).toNat,List.mem_range.2 (by omega),by omega⟩,by rw [h3];rfl⟩
theorem z14 {l:List Nte} (hz:ze8 l=0) {d:List UInt8} {x:Int}:(∃xs,(d,xs)∈zu3 l/\x∈xs)↔∃G,zsr d (grN (zef l))=some G/\1<=x/\x<G/\zrq d x (zef l)=none:=by
 have hI:=z4a hz
 have hp:=zfv ((grN (zef l)).map (·.1))
 unfold zu3 zyp
 constructor
 ·rintro⟨xs,h1,h2⟩
  obtain⟨h1,_⟩:=List.mem_filter.1 h1
  obtain⟨e,he,h3⟩:=List.mem_map.1 h1
  obtain⟨rfl,rfl⟩:=Prod.mk.inj h3
  obtain⟨p,hp,rfl⟩:=List.mem_map.1 (hp.mem_iff.1 he)
  obtain⟨a,b⟩:=p
  have hg:=(zjw hI.one).2 hp
  dsimp only at h2 ⊢
  rw [hg,z9o] at h2
  simp only [Option.getD_some] at h2
  exact⟨b,hg,h2.1,by omega,h2.2.2⟩
 ·rintro⟨G,hg,h1,h2,h3⟩
  have hx:x∈z4l (zef l) d (G-1).toNat:=z9o.2 ⟨h1,by omega,h3⟩
  refine⟨z4l (zef l) d (G-1).toNat,List.mem_filter.2 ⟨List.mem_map.2 ⟨d,hp.mem_iff.2 (List.mem_map.2 ⟨_,(zjw hI.one).1 hg,rfl⟩),?_⟩,?_⟩,hx⟩
  ·rw [hg];rfl
  ·cases h:z4l (zef l) d (G-1).toNat with
   | nil=>rw [h] at hx;cases hx
   | cons _ _=>rfl
theorem zp1 {l:List Nte} (hz:ze8 l=0) {n:Nte}:n∈zop (zu3 l)↔n.da=5/\n.tx=[120]/\∃G,zsr n.dk (grN (zef l))=some G/\1<=n.nu/\n.nu<G/\zrq n.dk n.nu (zef l)=none:=by
 rw [<-z14 hz]
 unfold zop
 rw [List.mem_flatMap]
 constructor
 ·rintro⟨⟨d,xs⟩,h1,h2⟩
  obtain⟨x,hx,rfl⟩:=List.mem_map.1 h2
  exact⟨rfl,rfl,xs,h1,hx⟩
 ·rintro⟨h1,h2,xs,h3,h4⟩
  refine⟨(n.dk,xs),h3,List.mem_map.2 ⟨n.nu,h4,?_⟩⟩
  cases n
  simp only at h1 h2
  rw [h1,h2]
theorem yiu {l:List Nte} (hz:ze8 l=0) {d:List UInt8} {xs:List Int} {x:Int} (h1:(d,xs)∈zu3 l) (h2:x∈xs) {o:Nte} (ho:o∈l):¬(o.dk=d/\o.nu=x):=by
 obtain⟨G,_,_,_,h⟩:=(z14 hz).1 ⟨xs,h1,h2⟩
 exact zo9 h o ((zex hz).2 ho)
structure Whole (l w:List Nte):Prop where
 ok:ze8 w=0
 low:∀p∈grN (zef w),p.2<=1000
 none:zu3 w=[]
theorem yg4 {l:List Nte} (hz:ze8 l=0) (hf:∀p∈grN (zef l),p.2<=1000) (hn:l.length+(zop (zu3 l)).length<=256):Whole l (l++zop (zu3 l)):=by
 have hI:=z4a hz
 obtain⟨_,z2,z3⟩:=zjl.1 hz
 have key:∀n∈zop (zu3 l),∀o∈l,¬(o.dk=n.dk/\o.nu=n.nu):=fun n hn o ho=>by
  obtain⟨_,_,G,_,_,_,h⟩:=(zp1 hz).1 hn
  exact zo9 h o ((zex hz).2 ho)
 have hw:ze8 (l++zop (zu3 l))=0:=by
  refine zjl.2 ⟨by rw [List.length_append];exact hn,fun n hn=> ?_,fun a ha b hb h1 h2=> ?_⟩
  ·rcases List.mem_append.1 hn with hn|hn
   ·exact z2 n hn
   ·obtain⟨h1,h2,G,h3,h4,h5,_⟩:=(zp1 hz).1 hn
    obtain⟨⟨o,ho,ho2,ho3⟩,_⟩:=(hI.val _ _).1 h3
    have hoz:=z2 o ((zex hz).1 (by simpa using ho))
    have hG:=hf _ ((zjw hI.one).1 h3)
    dsimp only at hG
    unfold zui at hoz ⊢
    rw [zcu] at hoz ⊢
    have hnm:=hoz (if !zdy o.dk then 8 else 0) (by simp)
    rw [ho2] at hnm
    intro x hx
    simp only [List.mem_cons,List.not_mem_nil,or_false] at hx
    rcases hx with rfl|rfl|rfl|rfl
    ·exact hnm
    ·exact ztb.2 (by omega)
    ·exact ztb.2 (by omega)
    ·rw [h2];decide
  ·rcases List.mem_append.1 ha with ha|ha
   ·rcases List.mem_append.1 hb with hb|hb
    ·exact z3 a ha b hb h1 h2
    ·exact absurd ⟨h1,h2⟩ (key b hb a ha)
   ·rcases List.mem_append.1 hb with hb|hb
    ·exact absurd ⟨h1.symm,h2.symm⟩ (key a ha b hb)
    ·obtain⟨a1,a2,_⟩:=(zp1 hz).1 ha
     obtain⟨b1,b2,_⟩:=(zp1 hz).1 hb
     exact Nte.ext4 ⟨h1,h2,a1.trans b1.symm,a2.trans b2.symm⟩
 have hIw:=z4a hw
 -- a desk of the whole is one of the notes, and has the same greatest number
 have same:∀d G,zsr d (grN (zef (l++zop (zu3 l))))=some G->∃H,zsr d (grN (zef l))=some H/\G<=H:=fun d G hg=>by
  obtain⟨⟨n,hn,h1,h2⟩,_⟩:=(hIw.val _ _).1 hg
  rcases List.mem_append.1 ((zex hw).1 hn) with hn|hn
  ·have hk:∃H,zsr d (grN (zef l))=some H:=by
    have:∀(cs:List Nte) (gs:Grt),d∈gs.map (·.1)->d∈(cs.foldl grA gs).map (·.1):=by
     intro cs
     induction cs with
     | nil=>exact fun _ h=>h
     | cons x r ih=>exact fun gs h=>ih _ ((zti _ _ _ _).2 (.inr h))
    have h2:∀(cs:List Nte) (gs:Grt),n∈cs->d∈(cs.foldl grA gs).map (·.1):=by
     intro cs
     induction cs with
     | nil=>exact fun _ h=>absurd h List.not_mem_nil
     | cons x r ih=>
      intro gs h
      rcases List.mem_cons.1 h with rfl|h
      ·exact this r _ ((zti _ _ _ _).2 (.inl h1.symm))
      ·exact ih _ h
    obtain⟨p,hp,hpd⟩:=List.mem_map.1 (h2 (zef l) [] ((zex hz).2 hn))
    obtain⟨a,b⟩:=p
    obtain rfl:a=d:=hpd
    exact⟨b,(zjw hI.one).2 hp⟩
   obtain⟨H,hH⟩:=hk
   have:=((hI.val _ _).1 hH).2 n (by simpa using (zex hz).2 hn) h1
   exact⟨H,hH,by omega⟩
  ·obtain⟨_,_,H,h3,h4,h5,_⟩:=(zp1 hz).1 hn
   rw [h1] at h3
   exact⟨H,h3,by omega⟩
 refine⟨hw,fun p hp=> ?_,?_⟩
 ·obtain⟨d,G⟩:=p
  obtain⟨H,h1,h2⟩:=same d G ((zjw hIw.one).2 hp)
  have:=hf _ ((zjw hI.one).1 h1)
  dsimp only at this ⊢
  omega
 ·refine List.eq_nil_iff_forall_not_mem.2 fun p hp=> ?_
  obtain⟨d,xs⟩:=p
  have hne:xs≠[]:=by
   have:=(List.mem_filter.1 (show (d,xs)∈zu3 (l++zop (zu3 l)) from hp)).2
   rintro rfl
   cases this
  obtain⟨x,hx⟩:=List.exists_mem_of_ne_nil xs hne
  obtain⟨G,h1,h2,h3,h4⟩:=(z14 hw).1 ⟨xs,hp,hx⟩
  obtain⟨H,h5,h6⟩:=same d G h1
  have no:=zo9 h4
  cases hg:zrq d x (zef l) with
  | some o=>
   obtain⟨o1,o2,o3⟩:=zss hg
   exact no o ((zex hw).2 (List.mem_append_left _ ((zex hz).1 o3))) ⟨o1.symm,o2.symm⟩
  | none=>
   have hm:(⟨d,x,5,[120]⟩:Nte)∈zop (zu3 l):=(zp1 hz).2 ⟨rfl,rfl,H,h5,h2,(by show x<H;omega),hg⟩
   exact no _ ((zex hw).2 (List.mem_append_right _ hm)) ⟨rfl,rfl⟩
def yjx (x:Nte):List Nte->List Nte
 | []=>[x]
 | y::r=>if ztp y x=true then y::yjx x r else x::y::r
def yll:List Nte->List Nte
 | []=>[]
 | x::r=>yjx x (yll r)
theorem zxu (x:Nte):∀l:List Nte,(yjx x l).Perm (x::l)
 | []=>List.Perm.refl _
 | y::r=>by
  unfold yjx
  split
  ·exact((zxu x r).cons y).trans (List.Perm.swap x y r)
  ·exact List.Perm.refl _
theorem zyk:∀l:List Nte,(yll l).Perm l
 | []=>List.Perm.refl _
 | x::r=>(zxu x _).trans ((zyk r).cons x)
theorem z9a (x:Nte):∀l:List Nte,(∀y∈l,¬(x.dk=y.dk/\x.nu=y.nu))->(l.Pairwise fun a b=>ztp a b=true)->(yjx x l).Pairwise fun a b=>ztp a b=true
 | [],_,_=>List.pairwise_singleton ..
 | y::r,hk,h=>by
  unfold yjx
  have h0:=List.pairwise_cons.1 h
  split
  ·rename_i c
   refine List.pairwise_cons.2 ⟨fun z hz=> ?_,z9a x r (fun z hz=>hk z (by simp [hz])) h0.2⟩
   rcases List.mem_cons.1 ((zxu x r).mem_iff.1 hz) with rfl|hz
   ·exact c
   ·exact h0.1 z hz
  ·rename_i c
   have c:ztp y x=false:=by simpa using c
   have hxy:=ydl y x (fun e=>hk y (by simp) ⟨e.1.symm,e.2.symm⟩) c
   refine List.pairwise_cons.2 ⟨fun z hz=> ?_,h⟩
   rcases List.mem_cons.1 hz with rfl|hz
   ·exact hxy
   ·exact ydm _ _ _ hxy (h0.1 z hz)
theorem yah:∀l:List Nte,z0x l->(yll l).Pairwise fun a b=>ztp a b=true
 | [],_=> .nil
 | x::r,h=>by
  have h0:=List.pairwise_cons.1 h
  exact z9a x _ (fun y hy=>h0.1 y ((zyk r).mem_iff.1 hy)) (yah r h0.2)
section
variable {E : Oracle} (g : Good E)
include g
theorem yjf:Fc E zeg [] (B true):=by
 refine g.fn rfl rfl ?_
 repeat' ((conv=>whnf);first
 | refine Yz ?_
  | (apply za1.of;first |exact ao1 g|exact ao2 g|exact ao3 g|exact ao4 g|exact ao5 g|exact ao6 g|exact ao7 g|exact ao8 g|exact ao9 g|exact ymy g|exact ymz g|exact ym0 g|exact ym1 g|exact ym2 g|exact ym3 g|exact ym4 g|exact ym5 g|exact ym6 g|exact ym7 g|exact ym8 g|exact ym9 g|exact yna g|exact ynb g|exact ync g|exact ynd g|exact yne g|exact ynf g)
  | (refine is0 g ?_)
  | (first |refine is1 g ?_|refine is2 g ?_|refine is3 g ?_|refine is4 g ?_|refine is5 g ?_|refine is6 g ?_|refine is7 g ?_|refine is8 g ?_|refine is9 g ?_|refine yng g ?_|refine ynh g ?_)
  | (refine zju.mk (by simp only [z9m,List.length_cons,List.length_nil];omega) ?_)
  | (refine zal.step g.lim ?_)
  | (exact Ret.mk rfl))
end
end Go.Proofs.YtmbofbehkalgkaaGreatDoor.Co
