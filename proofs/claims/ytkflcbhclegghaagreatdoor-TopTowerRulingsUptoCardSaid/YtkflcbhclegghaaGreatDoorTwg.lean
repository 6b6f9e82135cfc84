/-
  TopTowerRulings: what its law leans on, part 7.
-/
import Derived.Laws.RangeAny
import Derived.Lib.SplitLaws
import Derived.Test.YtkflcbhclegghaaGreatDoorEvX
import Derived.Test.YtkflcbhclegghaaGreatDoorEvY
import Derived.Test.YtkflcbhclegghaaGreatDoorRead
import Derived.Test.YtkflcbhclegghaaGreatDoorSpBase
import Derived.Test.YtkflcbhclegghaaGreatDoorTwf
namespace Go.Proofs.YtkflcbhclegghaaGreatDoor.Co
open Go Go.Evl
set_option maxHeartbeats 32000000
set_option maxRecDepth 100000
theorem z63{α β:Type}{f:α->Option β}{p:β}:∀{l:List α},(∀a∈l,f a=some p)->ykf f l=some (l.map λ_=>p)
 |[],_=>rfl
 |a::l,h=>by
  unfold ykf;rw[h a (by simp),Option.bind_some,z63 λb hb=>h b (by simp[hb])]
  rfl
theorem z82{α β:Type}{f:α->Option β}{p:α->β}:∀{l:List α},(∀a∈l,f a=some (p a))->ykf f l=some (l.map p)
 |[],_=>rfl
 |a::l,h=>by
  unfold ykf;rw[h a (by simp),Option.bind_some,z82 λb hb=>h b (by simp[hb])]
  rfl
theorem zwa(sz:Nat):∀(n:Nat)(ds:List D),ds.length=n*sz->(zmz sz n ds).flatten=ds
 |0,ds,h=>by
  have:ds=[]:=List.length_eq_zero_iff.1 (by omega);subst this
  rfl
 |n+1,ds,h=>by
  rw[Nat.succ_mul]at h;rw[zmz,List.flatten_cons,zwa sz n (ds.drop sz) (by rw[List.length_drop];omega),List.take_append_drop]
theorem z0a{run:Mem->Option (V×Mem)}{m:Mem}{o:Evl.Id}{a b c t n:Nat}{xs:List D}(hl:Evl.look m o=some (.bag t 1 n xs))(hx:xs.length=n)(p:V×Mem)
  (hr:∀l:List D,l.Perm xs->run (upd m o (.row true t 1 n l))=some p)(hle:leM m p.2 (zmc false m p.2)=true):zqt run m (.ref o a b c)=some (p.1,zmc false m p.2):=by
 have hx1:xs.length=n*1:=by omega
 unfold zqt;simp only[hl];rw[if_pos hx1,hr xs (List.Perm.refl _),Option.bind_some]
 have hall:ykf (λl=>run (upd m o (.row true t 1 n l.flatten))) (z0r (zmz 1 n xs))=some ((z0r (zmz 1 n xs)).map λ_=>p):=by
  refine z63 λl hl'=>hr _ ?_
  have h1:=(zo8 _ _).1 hl';have h2:=h1.flatten
  rwa[zwa 1 n xs hx1]at h2
 rw[hall,Option.bind_some];unfold z87;rw[if_pos];rw[List.all_eq_true];intro q hq;obtain⟨_,_,rfl⟩:=List.mem_map.1 hq;rw[z2g,hle]
 rfl
theorem z2f:∀e:Env,yt0 e e=true
 |[]=>rfl
 |(t,v)::r=>by simp[yt0,z2g,z2f r]
theorem z8i{body:Env->Mem->Option (Ex×Env×Mem)}{cx:Cx}{it:Nat}{x:Opd}{out nxt pair:Nat}{live:List Nat}{e1:Env}{m1:Mem}{o:Evl.Id}{es:List (D×V)}(hx:x.ev e1=.mp o)(hl:Evl.look m1 o=some (.map es))
  {i:Evl.Id}{m2:Mem}{e2 e3:Env}(hi:Evl.newId cx it m1=i)(hm:upd (upd m1 i .gone) o .gone=m2)(he:only live (put e1 it (.it i))=e2)(R:List (D×V)->Mem)
  (hr:∀p,p.Perm es->zg2 body it i out nxt pair live (zoi m2) p e2 m2=some (.normal,e3,R p)){mj:Mem}(hj:zmc true m2 (R es)=mj)(hle:∀p,p.Perm es->leM m2 (R p) mj=true)(hg:Evl.look mj o=some .gone):
  znm body cx it x out nxt pair live e1 m1=some (.normal,e3,upd mj o (.map es)):=by
 subst hj;unfold znm;simp only[hx,hl,hi,hm,he];unfold ztp;simp only[hr es (List.Perm.refl _),Option.bind_some];have hall:ykf (λp=>zg2 body it i out nxt pair live (zoi m2) p e2 m2) (z0r es)=some ((z0r es).map λp=>(.normal,e3,R p)):=z82 λp hp=>hr p ((zo8 _ _).1 hp)
 rw[hall,Option.bind_some];unfold zu6
 rw[if_pos]
 ·simp only[Option.bind_some,zy8,hg]
 rw[List.all_eq_true];intro q hq;obtain⟨p,hp,rfl⟩:=List.mem_map.1 hq;dsimp only;rw[z2f,hle p ((zo8 _ _).1 hp)]
 rfl
theorem z9o:∀es:List (D×V),yqq es es=true
 |[]=>rfl
 |(k,v)::r=>by simp[yqq,z5q,z2g,z9o r]
inductive LeJ(m0:Mem):Mem->Mem->Prop
 |nil:LeJ m0 [] []
 |cells{i:Evl.Id}{t:Nat}{cs:List V}{r r':Mem}(h:LeJ m0 r r'):LeJ m0 ((i,.cells t cs)::r) ((i,.cells t cs)::r')
 |row{i:Evl.Id}{w:Bool}{t sz n:Nat}{xs:List D}{r r':Mem}(h:LeJ m0 r r'):LeJ m0 ((i,.row w t sz n xs)::r) ((i,.row w t sz n xs)::r')
 |gone{i:Evl.Id}{r r':Mem}(h:LeJ m0 r r'):LeJ m0 ((i,.gone)::r) ((i,.gone)::r')
 |map{i:Evl.Id}{es:List (D×V)}{r r':Mem}(he:yqq es es=true)(h:LeJ m0 r r'):LeJ m0 ((i,.map es)::r) ((i,.map es)::r')
 |mapP{i:Evl.Id}{es fs:List (D×V)}{r r':Mem}(hd:ykp fs=true)(hp:z43 es fs=true)(h:LeJ m0 r r'):LeJ m0 ((i,.map es)::r) ((i,.map fs)::r')
 |loop{i:Evl.Id}{e e0:Env}{ps ps0:List Nat}{a b a0 b0:C}{lv lv0:Nat}{bu bu0 ov ov0:Bool}{j j0:Option ymn}{r r':Mem}(hl:Evl.look m0 i=some (.loop e0 ps0 a0 b0 lv0 bu0 ov0 j0))(hj:ylo j j=true)(h:LeJ m0 r r'):LeJ m0 ((i,.loop e ps a b lv bu ov j)::r) ((i,.loop e ps a b lv bu ov j)::r')
 |bag{i:Evl.Id}{t sz n:Nat}{xs ys:List D}{r r':Mem}(hb:yuv sz n ys xs=true)(h:LeJ m0 r r'):LeJ m0 ((i,.row true t sz n xs)::r) ((i,.bag t sz n ys)::r')
theorem LeJ.ok{m0 a b:Mem}(h:LeJ m0 a b):leM m0 a b=true:=by
 induction h with
 |nil=>rfl
 |cells h ih=>simp[leM,leO,zo3,ih]
 |row h ih=>simp[leM,leO,zk5,ih]
 |gone h ih=>simp[leM,leO,ih]
 |map he h ih=>simp[leM,leO,he,ih]
 |mapP hd hp h ih=>simp[leM,leO,hd,hp,ih]
 |loop hl hj h ih=>simp[leM,leO,hl,hj,z2f,ih]
 |bag hb h ih=>simp[leM,leO,hb,ih]
theorem z5z{x:List D}:∀{l:List (List D)},x∈l->∃r,zxg x l=some r
 |y::r,h=>by
  unfold zxg
  by_cases e:zl6 x y=true
  ·exact⟨r,if_pos e⟩
  rw[if_neg e]
  rcases List.mem_cons.1 h with rfl|h
  ·exact absurd (zk5 x) e
  obtain⟨q,hq⟩:=z5z h;exact⟨y::q,by rw[hq];rfl⟩
theorem yjd:∀{a b:List (List D)},a.Perm b->ygi a b=true
 |[],b,h=>by
  have:=List.Perm.nil_eq h;subst this
  rfl
 |x::r,b,h=>by
  have hx:x∈b:=h.subset (by simp);obtain⟨q,hq⟩:=z5z hx;have h1:=zur x b q hq;unfold ygi;rw[hq];exact yjd ((List.perm_cons x).1 (h.trans h1))
theorem z0b:∀(l:List D),zmz 1 l.length l=l.map λx=>[x]
 |[]=>rfl
 |x::r=>by
  rw[List.length_cons,zmz,List.map_cons];have:=z0b r;simp only[List.take_succ_cons,List.take_zero,List.drop_succ_cons,List.drop_zero];rw[this]
theorem yuw{xs ys:List D}{n:Nat}(h:xs.Perm ys)(hn:ys.length=n):yuv 1 n xs ys=true:=by
 have hx:xs.length=n:=h.length_eq.trans hn;unfold yuv;subst hn;rw[decide_eq_true (by omega),decide_eq_true (by omega),Bool.true_and,Bool.true_and];have e1:zmz 1 ys.length xs=xs.map λx=>[x]:=by rw[<-hx];exact z0b xs
 rw[e1,z0b];exact yjd (h.map _)
theorem ygn{body:Env->Mem->Option (Ex×Env×Mem)}{cx:Cx}{it:Nat}{x:Opd}{out nxt pair:Nat}{live:List Nat}{e1:Env}{m1:Mem}{o:Evl.Id}{es:List (D×V)}(hx:x.ev e1=.mp o)(hl:Evl.look m1 o=some (.map es))
  {i:Evl.Id}{m2:Mem}{e2 e3:Env}{X:Ex}(hX:ywf X X=true)(hi:Evl.newId cx it m1=i)(hm:upd (upd m1 i .gone) o .gone=m2)(he:only live (put e1 it (.it i))=e2){mR:Mem}
  (hr:∀p,p.Perm es->zg2 body it i out nxt pair live (zoi m2) p e2 m2=some (X,e3,mR)){mj:Mem}(hj:zmc true m2 mR=mj)(hle:leM m2 mR mj=true)(hg:Evl.look mj o=some .gone):
  znm body cx it x out nxt pair live e1 m1=some (X,e3,upd mj o (.map es)):=by
 subst hj;unfold znm;simp only[hx,hl,hi,hm,he];unfold ztp;simp only[hr es (List.Perm.refl _),Option.bind_some];have hall:ykf (λp=>zg2 body it i out nxt pair live (zoi m2) p e2 m2) (z0r es)=some ((z0r es).map λ_=>(X,e3,mR)):=z82 λp hp=>hr p ((zo8 _ _).1 hp)
 rw[hall,Option.bind_some];unfold zu6
 rw[if_pos]
 ·simp only[Option.bind_some,zy8,hg]
 rw[List.all_eq_true];intro q hq;obtain⟨p,hp,rfl⟩:=List.mem_map.1 hq;dsimp only;rw[z2f,hle,hX]
 rfl
theorem yr0{α β:Type}{f:α->β}{ps:List β}{l:List α}(h:ps.Perm (l.map f)):∃us:List α,ps=us.map f/\us.Perm l:=by
 induction l generalizing ps with
 |nil=>
  have:=List.Perm.nil_eq h.symm;subst this;exact⟨[],rfl,.nil⟩
 |cons x r ih=>
  have hx:f x∈ps:=h.symm.subset (by simp);obtain⟨a,b,rfl⟩:=List.append_of_mem hx;have h1:(a++b).Perm (r.map f):=List.Perm.cons_inv (List.perm_middle.symm.trans h);obtain⟨us,hu,hp⟩:=ih h1
  refine⟨us.take a.length++x::us.drop a.length,?_,?_⟩
  ·have ha:a=(us.take a.length).map f:=by
    have:=congrArg (List.take a.length) hu;rw[List.take_left,<-List.map_take]at this;exact this
   have hb:b=(us.drop a.length).map f:=by
    have:=congrArg (List.drop a.length) hu;rw[List.drop_left,<-List.map_drop]at this;exact this
   rw[List.map_append,List.map_cons,<-ha,<-hb]
  refine List.perm_middle.trans (.cons _ ?_);rw[List.take_append_drop];exact hp
def yy4(ls:List Lmt)(es:List (Wnd×Int)):Prop:=∀p∈es,p.1.1=(p.1.1.toNat:Nat)/\∃h:p.1.1.toNat<ls.length,p.2<=ls[p.1.1.toNat].mo
theorem yne{es:List (Wnd×Int)}{p:List (D×V)}(h:p.Perm (zmb es)):∃us:List (Wnd×Int),p=zmb us/\us.Perm es:=yr0 h
abbrev kX(ls:List Lmt)(bg:List (D×V)):Mem:=[(⟨0,0,0⟩,.cells zbi [LLm ls,.mp ⟨0,0,1⟩,.mp ⟨0,0,2⟩]),(⟨0,0,1⟩,.gone),(⟨0,0,2⟩,.map bg),(⟨1,9,0⟩,.gone)]
abbrev eX:Env:=[(0,.ptr ⟨0,0,0⟩ 0 0),(9,.it ⟨1,9,0⟩)]
abbrev y0e:List CO:=[xq 13 12 0,xq 14 12 1,tq 3 (.alloc zaa [.z (.int .i64 0),.z (.int .i64 0)]),⟨none,none,.store 2 (.t 3) (.t 13)⟩,mq 4 14]
abbrev bdX(E:Oracle):Env->Mem->Option (Ex×Env×Mem):=λe m=>(zjb E ⟨1,1+1⟩ y0e e m).bind λq=>evC E ⟨1,1+1⟩ zfe (zdk [12,13,14] q.1) q.2
theorem yxh{E:Oracle}{e:Env}{m:Mem}{K:Ex->Env->Mem->Prop}(h:Evl.wpOps E ⟨1,1+1⟩ y0e e m λe' m'=>wpC E ⟨1,1+1⟩ zfe (zdk [12,13,14] e') m' K):∃x e' m',bdX E e m=some (x,e',m')/\K x e' m':=by
 obtain⟨p,h1,h2⟩:=Evl.wpOps_ok _ _ _ _ h;obtain⟨x,e',m',h3,h4⟩:=Evl.wpC_ok _ _ _ _ h2;exact⟨x,e',m',by unfold bdX;rw[h1,Option.bind_some];exact h3,h4⟩
theorem yyf{E:Oracle}(ls:List Lmt)(ks:List Wnd)(w:Wnd)(n:Int)(h1:w.1=(w.1.toNat:Nat))(h2:w.1.toNat<ls.length)(h3:n<=ls[w.1.toNat].mo):
  ∃x e' m',bdX E (put eX 12 (.tup [.d (.agg [DI w.1,DI w.2]),I n])) (kX ls (zjy ls ks))=some (x,e',m')/\(x=.normal/\zsj (get e' 9) (.it ⟨1,9,0⟩)=true/\only [0,9] e'=eX/\gc (zoi (kX ls (zjy ls ks))) eX m'=kX ls (zjy ls ks)):=by
 have hkb:=λks=>zkf ls ks
 refine yxh ?_
 repeat'((conv=>whnf);first|refine Yz ?_|refine zgp.rec Lmt.cells_length w.1.toNat h1 h2 rfl ?_|fail)
 refine⟨rfl,rfl,rfl,?_⟩;have hb:=hkb ks;generalize zjy ls ks=bg at*;simp[gc,gc1,zoi,Evl.idsAll,Evl.idsO,hb,ykz,zev,Go.Evl.ids]
theorem yo5{E:Oracle}(ls:List Lmt)(ks:List Wnd):∀us:List (Wnd×Int),yy4 ls us->zg2 (bdX E) 9 ⟨1,9,0⟩ 0 1 12 [0,9] (zoi (kX ls (zjy ls ks))) (zmb us) eX (kX ls (zjy ls ks))=some (.normal,eX,kX ls (zjy ls ks))
 |[],_=>rfl
 |p::r,h=>by
  obtain⟨a1,a2,a3⟩:=h p (List.mem_cons_self ..);obtain⟨x,e',m',h1,rfl,h2,h3,h4⟩:=yyf (E:=E) ls ks p.1 p.2 a1 a2 a3;unfold zmb;rw[List.map_cons,zg2,h1,Option.bind_some];unfold zkd;dsimp only[Ex.on];rw[if_pos h2,h3,h4];exact yo5 ls ks r λq hq=>h q (List.mem_cons_of_mem _ hq)
theorem yx7{E:Oracle}(ls:List Lmt)(es:List (Wnd×Int))(ks:List Wnd)(hn:yy4 ls es){e1:Env}(he1:(Opd.t 8).ev e1=.mp ⟨0,0,1⟩)(he2:only [0,9] (put e1 9 (.it ⟨1,9,0⟩))=eX):
  znm (bdX E) ⟨1,1+1⟩ 9 (.t 8) 0 1 12 [0,9] e1 (mBd ls (zmb es) (zjy ls ks))=some (.normal,eX,mBd ls (zmb es) (zjy ls ks)++[(⟨1,9,0⟩,.gone)]):=by
 refine(ygn (o:=⟨0,0,1⟩) (es:=zmb es) he1 rfl (X:=.normal) rfl (i:=⟨1,9,0⟩) (m2:=kX ls (zjy ls ks)) (e2:=eX) (e3:=eX) rfl rfl he2 (mR:=kX ls (zjy ls ks)) (λp hp=>?_) (mj:=kX ls (zjy ls ks)) ?_ ?_ rfl).trans rfl
 ·obtain⟨us,rfl,hu⟩:=yne hp;exact yo5 ls ks us λp hp=>hn p (hu.mem_iff.1 hp)
 ·simp[zmc,ymx,ycj,Evl.look]
 exact LeJ.ok (.cells<|.gone<|.map (z9o _)<|.gone .nil)
section
variable{E:Oracle}(g:Good E)
include g
theorem yma(ls:List Lmt)(es:List (Wnd×Int))(ks:List Wnd)(hn:yy4 ls es):UB E true zef ls [] es ks λv es' ks'=>v=B false/\es'=es/\ks'=ks:=by
 refine⟨?_⟩;show In E 1 _ _ _ λv m1=>zxy ⟨0,1⟩ 0 true v m1 λv' m'=>∃es' ks',(v'=B false/\es'=es/\ks'=ks)/\zvi m' (mBd ls (zmb es') (zjy ls ks'))
 have hkb:=λks=>zkf ls ks
 have hct:=λes=>zlj es
 have hr:=λ{e1}h1 h2=>yx7 (E:=E) ls es ks hn (e1:=e1) h1 h2
 refine In.enter (f:=zef) g.lim rfl rfl ?_
 repeat'((conv=>whnf);first|refine Yz ?_|(refine⟨_,_,_,hr rfl rfl,?_⟩)|(simp only[mBd,List.cons_append,Evl.idsAll,Evl.idsO,hct,hkb,List.nil_append])|fail)
 exact⟨es,ks,⟨trivial,rfl,rfl⟩,rfl,rfl,rfl,trivial⟩
theorem z1c(l:List Wsh)(h:yqj l)(rs:List Alr)(hf:ybe l rs):Fc E zgs [LWi l,LRs rs] (I 0):=by
 have h1:=zzc g l h;have h2:=z6v g l h rs hf;refine g.fn rfl rfl ?_
 repeat'((conv=>whnf);first|refine Yz ?_|(apply zaf.of;assumption)|refine Ret.mk rfl|fail)
theorem zyv(ls:List Lmt)(hls:ls.length<=3)(hc:zj8 ls=0)(l:List Wsh)(h:z8z l)(rs:List Alr)(hf:ybe l rs)(hno:∀w∈zd2 ls (zuj l rs),(((zd2 ls (zuj l rs)).count w:Nat):Int)<=(ls.getD w.1.toNat default).mo):
  In E 0 zcf [LLm ls,LWi l,LRs rs] [] λv _=>v=I 0:=by
 have hv:=zsi hc;have h1:=zsu g ls (by omega);rw[hc]at h1;have h2:=z1c g l h.ok rs hf;obtain⟨Z,hz,h3⟩:=ysw g l h rs hf;have hlen:=h.ok.len;have hfew:=yai h hf l.length (Nat.le_refl _);rw[List.take_length,<-hf.len,List.take_length]at hfew;have hM:∀x∈Z,0<=x.mo/\x.mo<=143999999:=λx hx=>hfew.2 x (hz.subset hx)
 have hZl:Z.length<=1000:=by have:=hz.length_eq;have:=hf.len;omega
 have h5:=z1b g 14;have hkb:=λks=>zkf ls ks
 have hct:=λes=>zlj es
 refine In.enter (f:=zcf) g.lim rfl rfl ?_
 repeat'((conv=>whnf);first|refine Yz ?_|(apply zaf.of;assumption)|refine zd5.of (In.enter (f:=zdm) g.lim rfl rfl ?_)|(refine⟨(.ptr ⟨0,24,0⟩ 0 0,[(⟨0,24,0⟩,.cells zbi [LLm ls,.mp ⟨0,24,1⟩,.mp ⟨0,24,2⟩]),(⟨0,24,1⟩,.map []),(⟨0,24,2⟩,.map [])]),rfl,?_⟩)|fail)
 refine zab.to (zab.by (σ:=Nat×List (Wnd×Int)×List Wnd) g (λu=>u.1<=Z.length/\(∀w,zdr u.2.1 w=((zd2 ls (Z.take u.1)).count w:Nat))/\ybg ls u.2.1)
  (λu=>[(9,.ptr ⟨0,24,0⟩ 0 0),(27,LMv Z),(28,I Z.length),(29,I u.1)])
  (λu=>[(⟨0,24,0⟩,.cells zbi [LLm ls,.mp ⟨0,24,1⟩,.mp ⟨0,24,2⟩]),(⟨0,24,1⟩,.map (zmb u.2.1)),(⟨0,24,2⟩,.map (zjy ls u.2.2))])
  (λu=>Z.length-u.1) ?_ (0,[],[]) ⟨Nat.zero_le _,λw=>by simp[zdr,zd2],ybg.nil ls⟩) rfl rfl
 rintro⟨i,es,ks⟩⟨k1,k2,k3⟩ih;dsimp only at k1 k2 k3⊢
 by_cases hlt:i<Z.length
 ·have hx:=hM _ (List.getElem_mem hlt)
  have hcn:∀w,((zd2 ls (Z.take i)).count w:Nat)<=8640000:=λw=>by
   have a1:=zmp ls hv hls (Z.take i);have a2:(Z.take i).length<=1000:=by rw[List.length_take];omega
   have a3:=List.count_le_length (a:=w) (l:=zd2 ls (Z.take i));omega
  have hes:∀w,-1000000000<=zdr es w/\zdr es w<=1000000000:=λw=>by
   have:=hcn w;have:=k2 w;omega
  have ih:=λes' ks'(a:∀w,zdr es' w=zdr es w+1*((z2c ls Z[i]).count w:Nat))(b:ybg ls es->ybg ls es')=>ih (i+1,es',ks') ⟨by dsimp only;omega,λw=>by
   dsimp only;rw[a,k2,zq5 ls hlt,List.count_append]
   omega,b k3⟩ (by dsimp only;omega)
  dsimp only at ih
  repeat'((conv=>whnf);first|refine Yz ?_|refine za2.rec Mvt.cells_length i rfl hlt ?_|(refine UpdB.of (b0:=⟨0,24,0⟩) (yuk g ls hls hv Z[i] hx 1 (by omega) es hes ks) rfl rfl (by decide) rfl rfl rfl (by rintro v es' ks'⟨rfl,_⟩;exact⟨λ_=>rfl,rfl⟩) ?_;rintro v es' ks'⟨rfl,a,b⟩)|(simp only[Evl.idsAll,Evl.idsO,hct,hkb,List.nil_append])|refine zab.to (ih _ _ a b) rfl rfl|fail)
 obtain rfl:i=Z.length:=by omega
 clear ih;rw[List.take_length]at k2;have hpe:(zd2 ls Z).Perm (zd2 ls (zuj l rs)):=hz.flatMap_right _
 have hn:yy4 ls es:=λp hp=>by
  have hi:=k3.idx p hp;have e:=yif k3.nd p hp;rw[k2,hpe.count_eq]at e;refine⟨hi.1,hi.2,?_⟩;have hmo:=zhx.1 (hv _ (List.getElem_mem hi.2))
  by_cases hw:p.1∈zd2 ls (zuj l rs)
  ·have:=hno p.1 hw;rw[show ls.getD p.1.1.toNat default=ls[p.1.1.toNat]'hi.2 from by simp[List.getD,hi.2]]at this;omega
  rw[List.count_eq_zero_of_not_mem hw]at e;omega
 repeat'((conv=>whnf);first|refine Yz ?_|(refine UpdB.of (b0:=⟨0,24,0⟩) (yma g ls es ks hn) rfl rfl (by decide) rfl rfl rfl (by rintro v es' ks'⟨rfl,_⟩;exact⟨λ_=>rfl,rfl⟩) ?_;rintro v es' ks'⟨rfl,rfl,rfl⟩)|refine zaf.of h5 ?_|(simp only[Evl.idsAll,Evl.idsO,hct,hkb,List.nil_append])|fail)
 conv=>whnf
end
def ztn(ls:List Lmt):List Mvt->List Wsh->List Alr->List Alr
 |P,w::l,r::q=>if r.gr=true/\ztj ls P (zqv w r.mi)=[]then ysn w (some r.mi)::ztn ls (P++zqv w r.mi) l q else ysn w none::ztn ls P l q
 |_,_,_=>[]
abbrev wdA(l:List Wsh)(rs:List Alr)(ls:List Lmt)(out:List Alr)(ct bg:List (D×V)):Mem:=[(⟨0,4,0⟩,.cells zcw [LWi l]),(⟨0,5,0⟩,.cells zb6 [LRs rs]),(⟨0,6,0⟩,.row true zah 3 0 []),(⟨0,25,0⟩,.row true zah 3 l.length (out.flatMap Alr.cells)),(⟨0,9,0⟩,.row true zah 3 0 []),(⟨0,9,1⟩,.cells zb6 [.ref ⟨0,25,0⟩ 0 l.length l.length]),(⟨0,27,0⟩,.cells zbi [LLm ls,.mp ⟨0,27,1⟩,.mp ⟨0,27,2⟩]),(⟨0,27,1⟩,.map ct),(⟨0,27,2⟩,.map bg)]
abbrev wdM(l:List Wsh)(rs:List Alr)(ls:List Lmt)(out:List Alr)(ct bg:List (D×V)):Mem:=wdA l rs ls out ct bg++[(⟨0,10,0⟩,.cells zgd [.ptr ⟨0,27,0⟩ 0 0]),(⟨0,29,0⟩,.cells zsx [LI (List.replicate l.length (-1))])]
abbrev wdO:Ob:=.loop [(4,.ptr ⟨0,4,0⟩ 0 0),(5,.ptr ⟨0,5,0⟩ 0 0),(6,.ref ⟨0,6,0⟩ 0 0 0),(7,I 0),(8,I 0),(22,B false),(9,.ptr ⟨0,9,1⟩ 0 0),(10,.ptr ⟨0,10,0⟩ 0 0),(29,.fn zbz [] [.ptr ⟨0,29,0⟩ 0 0])] [30] zmq zmr 0 false false none
structure yef(ls:List Lmt)(l:List Wsh)(rs:List Alr)(i:Nat)(P:List Mvt)(out:List Alr)(es:List (Wnd×Int)):Prop where
 le:i<=l.length
 cnt:∀w,zdr es w=((zd2 ls P).count w:Nat)
 few:P.length<=8*i
 res:∃done,out=done++rf0 (l.drop i)/\done.length=i/\ztn ls [] l rs=done++ztn ls P (l.drop i) (rs.drop i)
theorem yef.len{ls:List Lmt}{l:List Wsh}{rs:List Alr}{i:Nat}{P:List Mvt}{out:List Alr}{es:List (Wnd×Int)}(h:yef ls l rs i P out es):out.length=l.length:=by
 obtain⟨done,rfl,h2,_⟩:=h.res;have:=h.le;rw[List.length_append,z8m,List.length_drop,h2];omega
theorem yef.start(ls:List Lmt)(l:List Wsh)(rs:List Alr):yef ls l rs 0 [] (rf0 l) []:=⟨Nat.zero_le _,λw=>by simp[zdr,zd2],by simp,[],by simp,rfl,by simp⟩
theorem yef.over{ls:List Lmt}{l:List Wsh}{rs:List Alr}{P:List Mvt}{out:List Alr}{es:List (Wnd×Int)}(h:yef ls l rs l.length P out es):out=ztn ls [] l rs:=by
 obtain⟨done,rfl,h2,h3⟩:=h.res;rw[h3,List.drop_length]
 rfl
theorem yef.none{ls:List Lmt}{l:List Wsh}{rs:List Alr}{i:Nat}{P:List Mvt}{out:List Alr}{es:List (Wnd×Int)}(h:yef ls l rs i P out es)(hi:i<l.length)(hr:i<rs.length)(hc:¬(rs[i].gr=true/\ztj ls P (zqv l[i] rs[i].mi)=[])){es':List (Wnd×Int)}(he:∀w,zdr es' w=zdr es w):yef ls l rs (i+1) P out es':=by
 obtain⟨done,rfl,h2,h3⟩:=h.res
 refine⟨hi,λw=>by rw[he,h.cnt],by have:=h.few;omega,done++[ysn l[i] Option.none],?_,by simp[h2],?_⟩
 ·rw[List.drop_eq_getElem_cons hi,rf0,List.map_cons,List.append_assoc]
  rfl
 rw[h3,List.drop_eq_getElem_cons hi,List.drop_eq_getElem_cons hr,ztn,if_neg hc,List.append_assoc]
 rfl
theorem yef.some{ls:List Lmt}{l:List Wsh}{rs:List Alr}{i:Nat}{P:List Mvt}{out:List Alr}{es:List (Wnd×Int)}(h:yef ls l rs i P out es)(hi:i<l.length)(hr:i<rs.length)(hg:rs[i].gr=true)(hc:ztj ls P (zqv l[i] rs[i].mi)=[])(hm:(zqv l[i] rs[i].mi).length<=8){es':List (Wnd×Int)}(he:∀w,zdr es' w=zdr es w+((zd2 ls (zqv l[i] rs[i].mi)).count w:Nat)):yef ls l rs (i+1) (P++zqv l[i] rs[i].mi) (ys6 out i rs[i].mi) es':=by
 obtain⟨done,rfl,h2,h3⟩:=h.res
 refine⟨hi,λw=>by rw[he,h.cnt,z26,List.count_append];omega,by have:=h.few;rw[List.length_append];omega,done++[ysn l[i] (Option.some rs[i].mi)],?_,by simp[h2],?_⟩
 ·have e:(done++rf0 (l.drop i)).getD i ⟨[],0,false⟩=⟨l[i].r.nm,0,false⟩:=by
   rw[List.drop_eq_getElem_cons hi,rf0,List.map_cons];simp[List.getD,<-h2]
  unfold ys6;rw[e,List.drop_eq_getElem_cons hi,rf0,List.map_cons,List.set_append_right _ _ (by omega),show i-done.length=0 from by omega,List.set_cons_zero,List.append_assoc]
  rfl
 rw[h3,List.drop_eq_getElem_cons hi,List.drop_eq_getElem_cons hr,ztn,if_pos ⟨hg,hc⟩,List.append_assoc]
 rfl
theorem yef.full{ls:List Lmt}{l:List Wsh}{rs:List Alr}{i:Nat}{P:List Mvt}{out:List Alr}{es:List (Wnd×Int)}(h:yef ls l rs i P out es)(M:List Mvt):z4f ls (zdr es) M=ztj ls P M:=by
 unfold z4f ztj;congr 1
 funext w
 rw[h.cnt];congr 1
section
variable{E:Oracle}(g:Good E)
include g
theorem yfq(ls:List Lmt)(hls:ls.length<=3)(hc:zj8 ls=0)(l:List Wsh)(h:z8z l)(rs:List Alr)(hf:ybe l rs):In E 0 zeb [LLm ls,LWi l,LRs rs] [] λv m'=>∃out,v=.tup [.ref ⟨0,25,0⟩ 0 l.length l.length,I 0]/\out=ztn ls [] l rs/\out.length=l.length/\Evl.look m' ⟨0,25,0⟩=some (.row true zah 3 l.length (out.flatMap Alr.cells)):=by
 have hv:=zsi hc;refine In.enter (f:=zeb) g.lim rfl rfl ?_;have h1:=zsu g ls (by omega);rw[hc]at h1;have h2:=z1c g l h.ok rs hf;have hlen:=h.ok.len;have hrl:=hf.len;have h4:=yaq g l h.ok
 repeat'((conv=>whnf);first|refine Yz ?_|(apply zaf.of;assumption)|refine zaf.of (yo8 g) ?_|refine zd5.refused g l hlen rfl ?_|refine zd5.of (In.enter (f:=zdm) g.lim rfl rfl ?_)|refine zd5.of (In.enter (f:=zew) g.lim rfl rfl ?_)|(refine⟨(.ptr ⟨0,27,0⟩ 0 0,wdA l rs ls (rf0 l) [] []),rfl,?_⟩)|(refine⟨(.fn zbz [] [.ptr ⟨0,29,0⟩ 0 0],wdM l rs ls (rf0 l) [] []),rfl,?_⟩)|refine In.enter (f:=zbz) g.lim rfl rfl ?_|fail)
 refine zab.to (zab.by (σ:=Nat×List Mvt×List Alr×List (Wnd×Int)×List Wnd) g (λu=>yef ls l rs u.1 u.2.1 u.2.2.1 u.2.2.2.1)
  (λu=>[(0,.yld ⟨0,59,0⟩),(5,LI (List.replicate l.length (-1))),(6,I l.length),(7,I u.1)])
  (λu=>wdM l rs ls u.2.2.1 (zmb u.2.2.2.1) (zjy ls u.2.2.2.2)++[(⟨0,59,0⟩,wdO)])
  (λu=>l.length-u.1) ?_ (0,[],rf0 l,[],[]) (yef.start ls l rs)) (by rw[List.length_replicate];rfl) rfl
 rintro⟨i,P,out,es,ks⟩hS ih;dsimp only at hS;have hkb:=λks=>zkf ls ks
 have hkc:=λes=>zlj es
 by_cases hlt:i<l.length
 ·have hri:i<(List.replicate l.length (-1:Int)).length:=by rw[List.length_replicate];exact hlt
  have hir:i<rs.length:=by omega
  have hw:=h.ok.ok _ (List.getElem_mem hlt);have hgr:=ype g i rs hir
  have hPb:∀es1:List (Wnd×Int),(∀w,zdr es1 w=zdr es w)->∀w,-100000000<=zdr es1 w/\zdr es1 w<=100000000:=λes1 he w=>by
   have h5:=he w;rw[hS.cnt]at h5;have h6:=List.count_le_length (a:=w) (l:=zd2 ls P);have h7:=zmp ls hv hls P;have h8:=hS.few;omega
  cases hg:rs[i].gr with
  | true=>
   have hmr:=zre hw (hf.gr i hir hlt hg);have hmv:=zum g l i hlt rs[i].mi hw.rc hmr;have hsm:=h.mv _ (List.getElem_mem hlt) rs[i].mi hmr.1 hmr.2;have hrn:=yjj ls (zdr es) (zqv l[i] rs[i].mi);rw[hS.full]at hrn;have hput:=yyx g out i (by rw[hS.len];exact hlt) rs[i].mi;rw[hS.len]at hput;rw[hg]at hgr
   by_cases hz:ztj ls P (zqv l[i] rs[i].mi)=[]
   ·have hr0:(yqu ls (zdr es) (zqv l[i] rs[i].mi)).length=0:=by rw[hrn.2 hz];rfl
    repeat'((conv=>whnf);first|refine Yz ?_|(apply zaf.of;assumption)|(refine zgp.intI i rfl hri ?_;rw[List.getElem_replicate])|refine Rnd.enter g.lim ?_|refine zuu.refusing g hls hv hsm.2 (by omega) (hPb es (λ_=>rfl)) rfl (by decide) rfl rfl rfl (λes2 ks2 h2=>?_)|refine zuu.of (is:=[⟨0,25,0⟩]) rfl rfl rfl rfl hput rfl rfl rfl ?_|refine zuu.take g hls hv hlt hw.rc hmr hsm.2 (by omega) (hPb es2 h2) (by decide) rfl rfl rfl (λes3 ks3 h3=>?_)|(simp only[Evl.idsAll,Evl.idsO,hkc,hkb,List.nil_append])|refine zab.to (ih (i+1,P++zqv l[i] rs[i].mi,ys6 out i rs[i].mi,es3,ks3) (hS.some hlt hir hg hz hsm.1 (λw=>by rw[h3 w,h2 w])) (by dsimp only;omega)) rfl rfl|fail)
   have hr0:(yqu ls (zdr es) (zqv l[i] rs[i].mi)).length≠0:=λh0=>hz (hrn.1 (List.length_eq_zero_iff.1 h0))
   repeat'((conv=>whnf);first
   | refine Yz ?_
    | (apply zaf.of;assumption)
    | (refine zgp.intI i rfl hri ?_;rw[List.getElem_replicate])
    | (refine Rnd.enter g.lim ?_)
    | (refine zuu.refusing g hls hv hsm.2 (by omega) (hPb es (λ_=>rfl)) rfl (by decide) rfl rfl rfl (λes2 ks2 h2=>?_))
    | (simp only[Evl.idsAll,Evl.idsO,hkc,hkb,List.nil_append])
    | (refine zab.to (ih (i+1,P,out,es2,ks2) (hS.none hlt hir (λq=>hz q.2) h2) (by dsimp only;omega)) rfl rfl)
    | fail)
  | false=>
   rw[hg]at hgr
   repeat'((conv=>whnf);first|refine Yz ?_|(apply zaf.of;assumption)|(refine zgp.intI i rfl hri ?_;rw[List.getElem_replicate])|refine Rnd.enter g.lim ?_|(simp only[Evl.idsAll,Evl.idsO,hkc,hkb,List.nil_append])|refine zab.to (ih (i+1,P,out,es,ks) (hS.none hlt hir (λq=>by rw[hg]at q;exact absurd q.1 (by decide)) (λ_=>rfl)) (by dsimp only;omega)) rfl rfl|fail)
 obtain rfl:i=l.length:=by have:=hS.le;omega
 clear ih
 repeat'((conv=>whnf);first|refine Yz ?_|(simp only[Evl.idsAll,Evl.idsO,hkc,hkb,List.nil_append])|(exact⟨out,trivial,hS.over,hS.len,rfl⟩)|fail)
end
structure Evt where
 nu:Int
 ki:List UInt8
 ns:List (List UInt8)
 vs:List Int
 tx:List UInt8
 deriving DecidableEq
abbrev Ws(l:List (List UInt8)):V:=.d (.list l.length (l.map D.str))
def Evt.cells(e:Evt):List D:=[DI e.nu,.str e.ki,.list e.ns.length (e.ns.map D.str),.list e.vs.length (e.vs.map DI),.str e.tx]
abbrev Evv(e:Evt):V:=.d (.agg e.cells)
abbrev zp0:List UInt8:=[101,110,116,101,114]
abbrev zue:List UInt8:=[114,117,108,101]
abbrev zdg:List UInt8:=[102,111,108,108,111,119]
abbrev zeo:List UInt8:=[114,101,118,101,114,115,101]
abbrev zd9:List UInt8:=[99,111,109,112,108,97,105,110]
abbrev zix:List UInt8:=[100,101,99,105,100,101]
def yck(k:List UInt8):Nat:=if k=zp0 then 2 else if k=zue then 2 else if k=zdg then 3 else if k=zeo then 1 else if k=zd9 then 2 else if k=zix then 1 else 0
def yfm(k:List UInt8):Nat:=if k=zp0 then 4 else if k=zue then 4 else if k=zdg then 4 else if k=zeo then 1 else if k=zd9 then 1 else if k=zix then 2 else 0
def z4n(k:List UInt8):Bool:=decide (k=zp0)||decide (k=zue)||decide (k=zdg)||decide (k=zeo)||decide (k=zd9)||decide (k=zix)
theorem z7w(k:List UInt8):k=zp0\/k=zue\/k=zdg\/k=zeo\/k=zd9\/k=zix\/
  (k≠zp0/\k≠zue/\k≠zdg/\k≠zeo/\k≠zd9/\k≠zix):=by
 by_cases h1:k=zp0
 ·exact .inl h1
 by_cases h2:k=zue
 ·exact .inr (.inl h2)
 by_cases h3:k=zdg
 ·exact .inr (.inr (.inl h3))
 by_cases h4:k=zeo
 ·exact .inr (.inr (.inr (.inl h4)))
 by_cases h5:k=zd9
 ·exact .inr (.inr (.inr (.inr (.inl h5))))
 by_cases h6:k=zix
 ·exact .inr (.inr (.inr (.inr (.inr (.inl h6)))))
 exact .inr (.inr (.inr (.inr (.inr (.inr ⟨h1,h2,h3,h4,h5,h6⟩)))))
def zp4(l:List (List UInt8)):Bool:=l.any λs=>!zcd s
def yw0(n:Int):Bool:=decide (n<0\/999999999<n)
def far(l:List Int):Bool:=l.any yw0
def ye4(e:Evt):Int:=
 zar [rng e.nu 1 1000,if !z4n e.ki then 13 else 0,if e.ns.length≠yck e.ki\/e.vs.length≠yfm e.ki then 2 else 0,if zp4 e.ns then 8 else 0,if far e.vs then 3 else 0,if e.tx≠[]then 1 else 0]
def yk1{α:Type}(p:α->Bool)(l:List α):Int:=match l.findIdx? p with
 |some i=>i
 |none=>-1
theorem z0k{α:Type}{p:α->Bool}{l:List α}{k:Nat}(hk:k<l.length)(h:p l[k]=true)(hn:∀j,(hj:j<k)->p (l[j]'(by omega))=false):yk1 p l=k:=by
 have:l.findIdx? p=some k:=List.findIdx?_eq_some_iff_getElem.2 ⟨hk,h,λj hj=>by simp[hn j hj]⟩;simp[yk1,this]
theorem zyu{α:Type}{p:α->Bool}{l:List α}(hn:∀j,(hj:j<l.length)->p l[j]=false):yk1 p l=-1:=by
 have:l.findIdx? p=none:=List.findIdx?_eq_none_iff.2 λx hx=>by
  obtain⟨j,hj,rfl⟩:=List.mem_iff_getElem.1 hx;exact hn j hj
 simp[yk1,this]
theorem yil{α:Type}(p:α->Bool)(l:List α):decide (0<=yk1 p l)=l.any p:=by
 unfold yk1;cases h:l.findIdx? p with
 |none=>
  have h2:l.any p=false:=by
   rw[List.any_eq_false];intro x hx;have:=List.findIdx?_eq_none_iff.1 h x hx;simp[this]
  rw[h2];rfl
 |some i=>
  obtain⟨hi,hp,_⟩:=List.findIdx?_eq_some_iff_getElem.1 h;have h2:l.any p=true:=List.any_eq_true.2 ⟨l[i],List.getElem_mem hi,hp⟩;rw[h2];simp
theorem zgp.ws{l:List (List UInt8)}{i:Int}{K:D->Prop}(k:Nat)(hi:i=k)(h:k<l.length)(hk:K (.str l[k])):zgp (l.map D.str) (i.toNat*1) K:=by
 subst hi;exact⟨⟨_,by simp[h],hk⟩⟩
theorem zgp.iw{l:List Int}{i:Int}{K:D->Prop}(k:Nat)(hi:i=k)(h:k<l.length)(hk:K (DI l[k])):zgp (l.map DI) (i.toNat*1) K:=by
 subst hi;exact⟨⟨_,by simp[h],hk⟩⟩
section
variable{E:Oracle}(g:Good E)
include g
theorem z0u(b:Bool)(e:Int):Fc E zas [B b,I e] (I (if b then e else 0)):=by
 refine g.fn rfl rfl ?_;cases b
 all_goals repeat'((conv=>whnf);first|refine Yz ?_|(refine Ret.mk rfl))
theorem z5n(n a b:Int):Fc E zi1 [I n,I a,I b] (I (rng n a b)):=by
 refine g.fn rfl rfl ?_
 repeat'((conv=>whnf);first|refine Yz ?_|(refine Cmp.mk (λh=>?_) (λh=>?_))|(refine Rem.any (by omega) (λr hr he=>?_))|(refine Br.mk (λh=>?_) (λh=>?_))|refine zaf.of (z0u g _ _) ?_|(refine Ret.mk ?_))
 all_goals(simp only[V.d.injEq,D.int.injEq,true_and,rng];simp_all)
theorem z2u(l:List Int)(hl:l.length<=140737488355328):Fc E zbj [LI l] (I (zar l)):=by
 refine g.fn rfl rfl ?_
 conv=>whnf
 refine zab.upP g (λk=>[(5,LI l),(6,I l.length),(7,I k)]) (λ_=>[]) (λk=>zar l=zar (l.drop k)) l.length (λk hk hp ih=>?_) 0 (Nat.zero_le _) (by simp)
 by_cases hlt:k<l.length
 ·have hd:=zsk l k hlt
  repeat'((conv=>whnf);first|refine Yz ?_|refine zgp.int (by omega) ?_|(refine Cmp.mk (λh=>?_) (λh=>?_))|(refine Rem.any (by omega) (λr hr he=>?_))|(refine Br.mk (λh=>?_) (λh=>?_))|refine zab.to (ih hlt ?_) ?_ rfl|(refine Ret.mk ?_))
  all_goals simp_all
 have:l.drop k=[]:=List.drop_eq_nil_of_le (by omega)
 repeat'((conv=>whnf);first|refine Yz ?_|(refine Ret.mk ?_))
 simp[hp,this,zar]
theorem yjx(s:List UInt8):Fc E zhy [S s] (I (if !zcd s then 8 else 0)):=by
 refine g.fn rfl rfl ?_;have h:=zvd g s
 repeat'((conv=>whnf);first|refine Yz ?_|(apply zaf.of;assumption)|refine zaf.of (z0u g _ _) ?_|(refine Ret.mk rfl))
theorem ydm{f:Nat}{p:List UInt8->Bool}{l:List (List UInt8)}(hl:l.length<=1000000)(hf:∀x∈l,Fc E f [S x] (B (p x))):Fc E zdx [Ws l,.d (.fn f)] (I (yk1 p l)):=by
 refine g.fn rfl rfl ?_
 conv=>whnf
 refine zab.upP g (λk=>[(0,Ws l),(1,.d (.fn f)),(7,I l.length),(8,I k)]) (λ_=>[]) (λk=>∀j,(hj:j<k)->(hj':j<l.length)->p l[j]=false) l.length (λk hk hp ih=>?_) 0 (Nat.zero_le _) (λj hj=>by omega)
 by_cases hlt:k<l.length
 ·have hx:=hf l[k] (List.getElem_mem hlt);cases hb:p l[k]with
  | true=>
   rw[hb]at hx;have hi:=z0k (p:=p) hlt hb λj hj=>hp j hj (by omega)
   rw[hi]
   repeat'((conv=>whnf);first
   | refine Yz ?_
    | (refine zgp.ws k rfl hlt ?_)
    | (apply zaf.of;assumption)
    | (refine Ret.mk rfl))
  | false=>
   rw[hb]at hx
   have ih:=ih hlt λj hj hj'=>by
    by_cases e:j=k
    ·subst e;exact hb
    exact hp j (by omega) hj'
   repeat'((conv=>whnf);first|refine Yz ?_|refine zgp.ws k rfl hlt ?_|(apply zaf.of;assumption)|(refine zab.to ih rfl rfl))
 have hi:=zyu (p:=p) (l:=l) λj hj=>hp j (by omega) hj
 rw[hi]
 repeat'((conv=>whnf);first|refine Yz ?_|(refine Ret.mk rfl))
theorem z5j{f:Nat}{p:List UInt8->Bool}{l:List (List UInt8)}(hl:l.length<=1000000)(hf:∀x∈l,Fc E f [S x] (B (p x))):Fc E zdj [Ws l,.d (.fn f)] (B (l.any p)):=by
 refine g.fn rfl rfl ?_;have h:=ydm g hl hf;rw[<-yil]
 repeat'((conv=>whnf);first|refine Yz ?_|(apply zaf.of;assumption)|(refine Cmp.mk (λh=>?_) (λh=>?_))|(refine Rem.any (by omega) (λr hr he=>?_))|(refine Br.mk (λh=>?_) (λh=>?_))|(refine Ret.mk ?_))
 all_goals simp_all
theorem ydl{f:Nat}{p:Int->Bool}{l:List Int}(hl:l.length<=1000000)(hf:∀x∈l,Fc E f [I x] (B (p x))):Fc E zfs [LI l,.d (.fn f)] (I (yk1 p l)):=by
 refine g.fn rfl rfl ?_
 conv=>whnf
 refine zab.upP g (λk=>[(0,LI l),(1,.d (.fn f)),(7,I l.length),(8,I k)]) (λ_=>[]) (λk=>∀j,(hj:j<k)->(hj':j<l.length)->p l[j]=false) l.length (λk hk hp ih=>?_) 0 (Nat.zero_le _) (λj hj=>by omega)
 by_cases hlt:k<l.length
 ·have hx:=hf l[k] (List.getElem_mem hlt);cases hb:p l[k]with
  | true=>
   rw[hb]at hx;have hi:=z0k (p:=p) hlt hb λj hj=>hp j hj (by omega)
   rw[hi]
   repeat'((conv=>whnf);first
   | refine Yz ?_
    | (refine zgp.iw k rfl hlt ?_)
    | (apply zaf.of;assumption)
    | (refine Ret.mk rfl))
  | false=>
   rw[hb]at hx
   have ih:=ih hlt λj hj hj'=>by
    by_cases e:j=k
    ·subst e;exact hb
    exact hp j (by omega) hj'
   repeat'((conv=>whnf);first|refine Yz ?_|refine zgp.iw k rfl hlt ?_|(apply zaf.of;assumption)|(refine zab.to ih rfl rfl))
 have hi:=zyu (p:=p) (l:=l) λj hj=>hp j (by omega) hj
 rw[hi]
 repeat'((conv=>whnf);first|refine Yz ?_|(refine Ret.mk rfl))
theorem z5i{f:Nat}{p:Int->Bool}{l:List Int}(hl:l.length<=1000000)(hf:∀x∈l,Fc E f [I x] (B (p x))):Fc E zek [LI l,.d (.fn f)] (B (l.any p)):=by
 refine g.fn rfl rfl ?_;have h:=ydl g hl hf;rw[<-yil]
 repeat'((conv=>whnf);first|refine Yz ?_|(apply zaf.of;assumption)|(refine Cmp.mk (λh=>?_) (λh=>?_))|(refine Rem.any (by omega) (λr hr he=>?_))|(refine Br.mk (λh=>?_) (λh=>?_))|(refine Ret.mk ?_))
 all_goals simp_all
theorem yz3(s:List UInt8):Fc E zga [S s] (B (!zcd s)):=by
 refine g.fn rfl rfl ?_;have h:=yjx g s;cases hb:zcd s
 all_goals
  rw[hb]at h
  repeat'((conv=>whnf);first|refine Yz ?_|(apply zaf.of;assumption)|(refine Ret.mk rfl))
theorem yz4(n:Int):Fc E zgb [I n] (B (yw0 n)):=by
 refine g.fn rfl rfl ?_;have h:=z5n g n 0 999999999;by_cases hb:n<0\/999999999<n
 all_goals
  simp only[rng,hb,if_true,if_false]at h;simp only[yw0,hb,decide_true,decide_false]
  repeat'((conv=>whnf);first|refine Yz ?_|(apply zaf.of;assumption)|(refine Ret.mk rfl))
abbrev kdM:List (D×V):=[(.str zp0,.agg [.d (DI 2),.d (DI 4),.fn za0 [] [],.fn za1 [] []]),
 (.str zue,.agg [.d (DI 2),.d (DI 4),.fn za0 [] [],.fn za1 [] []]),
 (.str zdg,.agg [.d (DI 3),.d (DI 4),.fn za0 [] [],.fn za1 [] []]),
 (.str zeo,.agg [.d (DI 1),.d (DI 1),.fn zbk [] [],.fn zkj [] []]),
 (.str zd9,.agg [.d (DI 2),.d (DI 1),.fn zbb [] [],.fn zc6 [] []]),
 (.str zix,.agg [.d (DI 1),.d (DI 2),.fn zbf [] [],.fn zce [] []])]
omit g in
theorem yvf{k:List UInt8}(h:k≠zp0/\k≠zue/\k≠zdg/\k≠zeo/\k≠zd9/\k≠zix):zii (.str k) kdM=some none:=by
 have e:∀t,k≠t->(k==t)=false:=λt h=>beq_eq_false_iff_ne.2 h
 obtain⟨h1,h2,h3,h4,h5,h6⟩:=h;simp only[zii,eqD,e _ h1,e _ h2,e _ h3,e _ h4,e _ h5,e _ h6]
theorem zd5.kinds{cx:Cx}{slot:Nat}{m:Mem}{K:V->Mem->Prop}(hf:Go.Evl.freeK cx.lv slot m=0)(k:K (.mp ⟨cx.lv,slot,0⟩) (m++[(⟨cx.lv,slot,0⟩,.map kdM)])):zd5 E zgm [] cx slot m K:=by
 refine⟨.mp ⟨0,1,0⟩,[(⟨0,1,0⟩,.map kdM)],(.mp ⟨cx.lv,slot,0⟩,m++[(⟨cx.lv,slot,0⟩,.map kdM)]),g.lim.of_iter 1000 _ _ (by kernel_rfl),?_,k⟩;unfold Evl.settle;rw[hf]
 rfl
theorem ydk(e:Evt)(hn:e.ns.length<=1000000)(hv:e.vs.length<=1000000):Fc E zfp [Evv e] (I (ye4 e)):=by
 obtain⟨nu,ki,ns,vs,tx⟩:=e;change Fc E zfp [.d (.agg [DI nu,.str ki,.list ns.length (ns.map D.str),.list vs.length (vs.map DI),.str tx])] _;dsimp only at hn hv;refine g.fn rfl rfl ?_;have h1:=z5j g (f:=zga) (p:=λs=>!zcd s) hn λx _=>yz3 g x
 have h2:=z5i g (f:=zgb) (p:=yw0) hv λx _=>yz4 g x
 have h3:=z5n g nu 1 1000;have hlast:∀a b c d e f:Int,Fc E zbj [.d (.list 6 [DI a,DI b,DI c,DI d,DI e,DI f])] (I (zar [a,b,c,d,e,f])):=λa b c d e f=>z2u g [a,b,c,d,e,f] (by simp)
 rcases z7w ki with rfl|rfl|rfl|rfl|rfl|rfl|hk
 all_goals
  first|(have hfind:=yvf hk)|(have hfind:True:=trivial)
  repeat'((conv=>whnf);first|refine Yz ?_|refine zd5.kinds g rfl ?_|refine zxi.mk ⟨_,rfl,?_⟩|refine zxi.mk ⟨_,hfind,?_⟩|(apply zaf.of;assumption)|refine zaf.of (z0u g _ _) ?_|refine zaf.of (hlast _ _ _ _ _ _) ?_|(refine Cmp.mk (λh=>?_) (λh=>?_))|(refine Rem.any (by omega) (λr hr he=>?_))|(refine Br.mk (λh=>?_) (λh=>?_))|(refine Ret.mk ?_))
  all_goals try norm_cast at*
  all_goals(simp_all[ye4,z4n,yck,yfm,zp4,far];done)
end
end Go.Proofs.YtkflcbhclegghaaGreatDoor.Co
namespace Go.Evl
open Go Go.Lib
end Go.Evl
namespace Go.Proofs.YtkflcbhclegghaaGreatDoor.Co
open Go Go.Evl
set_option maxHeartbeats 32000000
set_option maxRecDepth 100000
theorem z8u:∀l:List (List UInt8),Evl.strsOf (l.map D.str)=some l
 |[]=>rfl
 |x::r=>by simp only[List.map_cons,Evl.strsOf,z8u r,Option.map_some]
theorem zab.two{σ:Type}{E:Oracle}(g:Good E){cx:Cx}{live:List Nat}{keep:List Evl.Id}{body:C}{K:Ex->Env->Mem->Prop}{e0:Env}{m0:Mem}(inv:σ->Prop)(env:σ->Env)(mem:σ->Mem)(μ:σ->Nat)
  (h:∀s,inv s->(∀s',inv s'->μ s'<μ s->zab E cx live keep body (env s') (mem s') K)->wpC E cx body (env s) (mem s) (z61 E cx live keep body K))
  (first:(∀s,inv s->zab E cx live keep body (env s) (mem s) K)->zab E cx live keep body e0 m0 K):zab E cx live keep body e0 m0 K:=first (zab.by g inv env mem μ h)
theorem ylq{cx:Cx}{slot lo:Nat}{old m:Mem}{o:Evl.Id}{v:V}(hi:Go.Evl.ids v=[o])(hr:Go.Evl.ren [] v=v)(h:o.lv<lo):Go.Evl.settle cx slot lo old m v=some (v,old):=by
 have hn:¬lo<=o.lv:=by omega
 have hr':Go.Evl.reach lo m 64 (Go.Evl.ids v) []=[]:=by
  rw[hi];simp[Go.Evl.reach,hn]
 unfold Go.Evl.settle;simp only[hr'];rw[if_pos (by rw[hi];simp[Go.Evl.within,Go.Evl.movable,Go.Evl.onceB,h])];simp[Go.Evl.number,hr,Go.Evl.moved]
theorem zto.low{cx:Cx}{slot lo:Nat}{old m:Mem}{o:Evl.Id}{v:V}{K:V×Mem->Prop}(hi:Go.Evl.ids v=[o])(hr:Go.Evl.ren [] v=v)(h:o.lv<lo)(k:K (v,old)):zto (Go.Evl.settle cx slot lo old m v) K:=⟨_,ylq hi hr h,k⟩
abbrev LE(l:List Evt):V:=.d (.list l.length (l.flatMap Evt.cells))
theorem evw(e:Evt):e.cells.length=5:=rfl
structure Ent where
 nm:List UInt8
 kd:List UInt8
 sr:List UInt8
 bs:List UInt8
 kn:Int
 fr:Int
 to:Int
 mi:Int
structure Rmv where
 en:List UInt8
 kn:Int
structure Cpl where
 nm:List UInt8
 en:List UInt8
 kn:Int
 cl:Bool
 up:Bool
structure Rgs where
 kn:Int
 es:List Ent
 rs:List Rmv
 cs:List Cpl
def Ent.cells(e:Ent):List D:=[.str e.nm,.str e.kd,.str e.sr,.str e.bs,DI e.kn,DI e.fr,DI e.to,DI e.mi]
def Rmv.cells(r:Rmv):List D:=[.str r.en,DI r.kn]
def Cpl.cells(c:Cpl):List D:=[.str c.nm,.str c.en,DI c.kn,.bool c.cl,.bool c.up]
abbrev yy3(e:Ent):V:=.d (.agg e.cells)
theorem zwb(e:Ent):e.cells.length=8:=rfl
theorem yzg(e:Rmv):e.cells.length=2:=rfl
theorem ymg(e:Cpl):e.cells.length=5:=rfl
abbrev mR(t:Nat)(ev:List Evt)(r:Rgs):Mem:=[(⟨0,0,0⟩,.cells t [.ref ⟨0,0,1⟩ 0 ev.length ev.length,I r.kn,.ref ⟨0,0,2⟩ 0 r.es.length r.es.length,.ref ⟨0,0,3⟩ 0 r.rs.length r.rs.length,.ref ⟨0,0,4⟩ 0 r.cs.length r.cs.length]),
 (⟨0,0,1⟩,.row false zao 5 ev.length (ev.flatMap Evt.cells)),(⟨0,0,2⟩,.row false zag 8 r.es.length (r.es.flatMap Ent.cells)),(⟨0,0,3⟩,.row false zby 2 r.rs.length (r.rs.flatMap Rmv.cells)),(⟨0,0,4⟩,.row true zan 5 r.cs.length (r.cs.flatMap Cpl.cells))]
abbrev isR:List Evl.Id:=[⟨0,0,0⟩,⟨0,0,1⟩,⟨0,0,2⟩,⟨0,0,3⟩,⟨0,0,4⟩]
def zph(es:List Ent)(nm:List UInt8):Int:=yk1 (λx=>decide (x.nm=nm)) es
def ye9(cs:List Cpl)(nm:List UInt8):Int:=yk1 (λx=>decide (x.nm=nm)) cs
theorem z7p{α:Type}(p:α->Bool)(l:List α):(yk1 p l=-1/\∀j,(hj:j<l.length)->p l[j]=false)\/∃k,∃hk:k<l.length,yk1 p l=k/\p l[k]=true/\∀j,(hj:j<k)->p (l[j]'(by omega))=false:=by
 unfold yk1;cases h:l.findIdx? p with
 |none=>
  refine .inl ⟨rfl,λj hj=>?_⟩;have:=List.findIdx?_eq_none_iff.1 h l[j] (List.getElem_mem hj);simpa using this
 |some i=>
  obtain⟨hi,hp,hn⟩:=List.findIdx?_eq_some_iff_getElem.1 h;refine .inr ⟨i,hi,rfl,hp,λj hj=>?_⟩;have:=hn j hj;simpa using this
abbrev yfd(r:Rgs)(i:Int):V:=if 0<=i then .ptr ⟨0,0,2⟩ ((0+i.toNat)*8) r.es.length else .d .nilp
abbrev yty(r:Rgs)(i:Int):V:=if 0<=i then .ptr ⟨0,0,4⟩ ((0+i.toNat)*5) r.cs.length else .d .nilp
section
variable{E:Oracle}(g:Good E)
include g
theorem z0t(t:Nat)(ev:List Evt)(r:Rgs)(nm:List UInt8)(hl:r.es.length<=1000000):Qs E zb1 [.ptr ⟨0,0,0⟩ 1 0,S nm] (mR t ev r) (yfd r (zph r.es nm)):=by
 refine⟨?_⟩;refine In.enter (f:=zb1) g.lim rfl rfl ?_;have hml:(r.es.flatMap Ent.cells).length=r.es.length*8:=zae Ent.cells 8 zwb r.es
 repeat'((conv=>whnf);first|refine Yz ?_|refine In.enter (f:=zav) g.lim rfl rfl ?_|fail)
 refine zab.to (zab.upP g (λk=>[(0,.ref ⟨0,0,2⟩ 0 r.es.length r.es.length),(1,.fn zdh [] [.ptr ⟨1,3,0⟩ 0 0]),(7,I r.es.length),(8,I k)]) (λ_=>mR t ev r++[(⟨1,3,0⟩,.cells zad [S nm])]) (λk=>∀j,(hj:j<k)->(hj':j<r.es.length)->decide (r.es[j].nm=nm)=false) r.es.length (λk hk hp ih=>?_) 0 (Nat.zero_le _) (λj h _=>absurd h (Nat.not_lt_zero _))) rfl rfl
 by_cases hlt:k<r.es.length
 ·have hwin:win (r.es.flatMap Ent.cells) ((0+((k:Nat):Int).toNat)*8) 8=r.es[k].cells:=by
   rw[Nat.zero_add,Int.toNat_natCast];exact zei Ent.cells 8 zwb r.es k hlt
  by_cases he:r.es[k].nm=nm
  ·have hi:zph r.es nm=k:=z0k (p:=λx:Ent=>decide (x.nm=nm)) hlt (decide_eq_true he) λj hj=>hp j hj (by omega)
   rw[hi,yfd,if_pos (by omega)]
   repeat'((conv=>whnf);first|refine Yz ?_|(rw[hwin];refine In.enter (f:=zdh) g.lim rfl rfl ?_)|refine Cmp.tt he ?_|(exact⟨rfl,rfl,rfl,rfl,rfl,rfl,trivial⟩)|fail)
  have ih:=ih hlt λj hj hj'=>by
   by_cases e:j=k
   ·subst e;exact decide_eq_false he
   exact hp j (by omega) hj'
  repeat'((conv=>whnf);first|refine Yz ?_|(rw[hwin];refine In.enter (f:=zdh) g.lim rfl rfl ?_)|refine Cmp.ff he ?_|refine zab.to ih rfl rfl|fail)
 obtain rfl:k=r.es.length:=by omega
 have hi:zph r.es nm=-1:=zyu (p:=λx:Ent=>decide (x.nm=nm)) λj hj=>hp j hj hj
 rw[hi,yfd,if_neg (by decide)]
 repeat'((conv=>whnf);first|refine Yz ?_|(exact⟨rfl,rfl,rfl,rfl,rfl,rfl,trivial⟩)|fail)
theorem zxe(t:Nat)(ev:List Evt)(r:Rgs)(nm:List UInt8)(hl:r.cs.length<=1000000):Qs E zb9 [.ptr ⟨0,0,0⟩ 1 0,S nm] (mR t ev r) (yty r (ye9 r.cs nm)):=by
 refine⟨?_⟩;refine In.enter (f:=zb9) g.lim rfl rfl ?_;have hml:(r.cs.flatMap Cpl.cells).length=r.cs.length*5:=zae Cpl.cells 5 ymg r.cs
 repeat'((conv=>whnf);first|refine Yz ?_|refine In.enter (f:=zbm) g.lim rfl rfl ?_|fail)
 refine zab.to (zab.upP g (λk=>[(0,.ref ⟨0,0,4⟩ 0 r.cs.length r.cs.length),(1,.fn zcs [] [.ptr ⟨1,3,0⟩ 0 0]),(7,I r.cs.length),(8,I k)]) (λ_=>mR t ev r++[(⟨1,3,0⟩,.cells zad [S nm])]) (λk=>∀j,(hj:j<k)->(hj':j<r.cs.length)->decide (r.cs[j].nm=nm)=false) r.cs.length (λk hk hp ih=>?_) 0 (Nat.zero_le _) (λj h _=>absurd h (Nat.not_lt_zero _))) rfl rfl
 by_cases hlt:k<r.cs.length
 ·have hwin:win (r.cs.flatMap Cpl.cells) ((0+((k:Nat):Int).toNat)*5) 5=r.cs[k].cells:=by
   rw[Nat.zero_add,Int.toNat_natCast];exact zei Cpl.cells 5 ymg r.cs k hlt
  by_cases he:r.cs[k].nm=nm
  ·have hi:ye9 r.cs nm=k:=z0k (p:=λx:Cpl=>decide (x.nm=nm)) hlt (decide_eq_true he) λj hj=>hp j hj (by omega)
   rw[hi,yty,if_pos (by omega)]
   repeat'((conv=>whnf);first|refine Yz ?_|(rw[hwin];refine In.enter (f:=zcs) g.lim rfl rfl ?_)|refine Cmp.tt he ?_|(exact⟨rfl,rfl,rfl,rfl,rfl,rfl,trivial⟩)|fail)
  have ih:=ih hlt λj hj hj'=>by
   by_cases e:j=k
   ·subst e;exact decide_eq_false he
   exact hp j (by omega) hj'
  repeat'((conv=>whnf);first|refine Yz ?_|(rw[hwin];refine In.enter (f:=zcs) g.lim rfl rfl ?_)|refine Cmp.ff he ?_|refine zab.to ih rfl rfl|fail)
 obtain rfl:k=r.cs.length:=by omega
 have hi:ye9 r.cs nm=-1:=zyu (p:=λx:Cpl=>decide (x.nm=nm)) λj hj=>hp j hj hj
 rw[hi,yty,if_neg (by decide)]
 repeat'((conv=>whnf);first|refine Yz ?_|(exact⟨rfl,rfl,rfl,rfl,rfl,rfl,trivial⟩)|fail)
end
inductive Ch(es:List Ent):Nat->List Ent->Prop
 |stop(k:Nat)(hk:k<es.length)(h:zph es es[k].bs=-1):Ch es k [es[k]]
 |step(k j:Nat)(tl:List Ent)(hk:k<es.length)(h:zph es es[k].bs=j)(ht:Ch es j tl):Ch es k (es[k]::tl)
def z8l(rs:List Rmv)(nm:List UInt8)(kn:Int):Bool:=rs.any λz=>decide (z.en=nm/\z.kn<=kn)
abbrev mC(t:Nat)(ev:List Evt)(r:Rgs)(x:Ent)(kn:Int):Mem:=mR t ev r++[(⟨1,3,0⟩,.cells zb8 [.ptr ⟨0,0,0⟩ 1 0]),(⟨1,4,0⟩,.cells zag [S x.nm,S x.kd,S x.sr,S x.bs,I x.kn,I x.fr,I x.to,I x.mi]),(⟨1,5,0⟩,.cells zc0 [I kn])]
section
variable{E:Oracle}(g:Good E)
include g
theorem z7q(t:Nat)(ev:List Evt)(r:Rgs)(x y:Ent)(kn:Int)(hl:r.rs.length<=1000000){slot:Nat}{K:V->Mem->Prop}(hK:K (B (z8l r.rs y.nm kn)) (mC t ev r x kn)):
  In E 4 zc8 [yy3 y,.ptr ⟨1,3,0⟩ 0 0,.ptr ⟨1,5,0⟩ 0 0] (mC t ev r x kn) λv m'=>zxy ⟨3,4⟩ slot true v m' K:=by
 refine In.enter (f:=zc8) g.lim rfl rfl ?_;have hml:(r.rs.flatMap Rmv.cells).length=r.rs.length*2:=zae Rmv.cells 2 yzg r.rs
 repeat'((conv=>whnf);first|refine Yz ?_|refine In.enter (f:=zbn) g.lim rfl rfl ?_|refine In.enter (f:=zbv) g.lim rfl rfl ?_|fail)
 refine zab.to (zab.upP g (λk=>[(0,.ref ⟨0,0,3⟩ 0 r.rs.length r.rs.length),(1,.fn zb7 [] [.ptr ⟨4,3,0⟩ 0 0,.ptr ⟨1,5,0⟩ 0 0]),(7,I r.rs.length),(8,I k)]) (λ_=>mC t ev r x kn++[(⟨4,3,0⟩,.cells zag [S y.nm,S y.kd,S y.sr,S y.bs,I y.kn,I y.fr,I y.to,I y.mi])])
  (λk=>∀j,(hj:j<r.rs.length)->j<k->¬(r.rs[j].en=y.nm/\r.rs[j].kn<=kn)) r.rs.length (λk hk hp ih=>?_) 0 (Nat.zero_le _) (λj _ h=>absurd h (Nat.not_lt_zero _))) rfl rfl
 by_cases hlt:k<r.rs.length
 ·have hwin:win (r.rs.flatMap Rmv.cells) ((0+((k:Nat):Int).toNat)*2) 2=r.rs[k].cells:=by
   rw[Nat.zero_add,Int.toNat_natCast];exact zei Rmv.cells 2 yzg r.rs k hlt
  by_cases he:r.rs[k].en=y.nm
  ·by_cases hn:r.rs[k].kn<=kn
   ·have hb:z8l r.rs y.nm kn=true:=List.any_eq_true.2 ⟨_,List.getElem_mem hlt,decide_eq_true ⟨he,hn⟩⟩;rw[hb]at hK
    repeat'((conv=>whnf);first|refine Yz ?_|(rw[hwin];refine In.enter (f:=zb7) g.lim rfl rfl ?_)|refine Cmp.tt he ?_|exact hK|fail)
   have ih:=ih hlt λj hj hjk=>by
    by_cases e:j=k
    ·subst e;exact λh=>hn h.2
    exact hp j hj (by omega)
   repeat'((conv=>whnf);first|refine Yz ?_|(rw[hwin];refine In.enter (f:=zb7) g.lim rfl rfl ?_)|refine Cmp.tt he ?_|refine zab.to ih rfl rfl|fail)
  have ih:=ih hlt λj hj hjk=>by
   by_cases e:j=k
   ·subst e;exact λh=>he h.1
   exact hp j hj (by omega)
  repeat'((conv=>whnf);first|refine Yz ?_|(rw[hwin];refine In.enter (f:=zb7) g.lim rfl rfl ?_)|refine Cmp.ff he ?_|refine zab.to ih rfl rfl|fail)
 obtain rfl:k=r.rs.length:=by omega
 have hb:z8l r.rs y.nm kn=false:=by
  unfold z8l;rw[List.any_eq_false];intro z hz;obtain⟨j,hj,rfl⟩:=List.mem_iff_getElem.1 hz;simpa using hp j hj hj
 rw[hb]at hK
 repeat'((conv=>whnf);first|refine Yz ?_|exact hK|fail)
theorem ysc(t:Nat)(ev:List Evt)(r:Rgs)(kn:Int)(hr:r.rs.length<=1000000)(hl:r.es.length<=1000000)(k:Nat)(hk:k<r.es.length)(c:List Ent)(hc:Ch r.es k c)(hcl:c.length<=1000000):
  Qs E zca [.ptr ⟨0,0,0⟩ 1 0,yy3 r.es[k],I kn] (mR t ev r) (B (decide (r.es[k].kn<=kn)&& !c.any λy=>z8l r.rs y.nm kn)):=by
 refine⟨?_⟩;generalize hx:r.es[k]=x at*;have hml:(r.es.flatMap Ent.cells).length=r.es.length*8:=zae Ent.cells 8 zwb r.es;refine In.enter (f:=zca) g.lim rfl rfl ?_
 repeat'((conv=>whnf);first|refine Yz ?_|refine In.enter (f:=zdu) g.lim rfl rfl ?_|fail)
 refine zab.to (zab.by (σ:=List Ent×Ent×Nat×List Ent) g (λu=>(∃hk:u.2.2.1<r.es.length,r.es[u.2.2.1]=u.2.1)/\Ch r.es u.2.2.1 u.2.2.2/\∃pre,u.1=pre++[u.2.1]/\pre++u.2.2.2=c)
  (λu=>[(0,.ptr ⟨0,0,0⟩ 1 0),(5,.ref ⟨2,8,0⟩ 0 u.1.length u.1.length)])
  (λu=>mC t ev r x kn++[(⟨2,3,0⟩,.cells zag [S x.nm,S x.kd,S x.sr,S x.bs,I x.kn,I x.fr,I x.to,I x.mi]),(⟨2,4,0⟩,.row false zag 8 0 []),(⟨2,8,0⟩,.row false zag 8 u.1.length (u.1.flatMap Ent.cells))])
  (λu=>u.2.2.2.length) ?_ ([x],x,k,c) ⟨⟨hk,hx⟩,hc,[],rfl,rfl⟩) rfl rfl
 clear hc hx;rintro⟨out,y,k,tl⟩⟨⟨hk,hy⟩,hc,pre,h1,h2⟩ih;dsimp only at hk hy hc h1 h2 ih⊢;have hol:out.length=pre.length+1:=by rw[h1];simp
 have hlast:out[pre.length]'(by omega)=y:=by simp[h1]
 have hq:=z0t g t ev r y.bs hl;have hcl2:pre.length+tl.length<=1000000:=by rw[<-List.length_append,h2];exact hcl
 have hmo:(out.flatMap Ent.cells).length=out.length*8:=zae Ent.cells 8 zwb out;cases hc with
 | stop k hk' h=>
  rw[hy]at h h2;rw[h,yfd,if_neg (by decide)]at hq;obtain rfl:out=c:=h1.trans h2
  repeat'((conv=>whnf);first|refine Yz ?_|(refine zgp.rec0 zwb pre.length (by omega) (by omega) rfl ?_;rw[hlast])|refine znw.of (r':=.d .nilp) isR rfl rfl rfl rfl hq rfl rfl rfl ?_|(rw[if_pos ⟨rfl,rfl⟩];refine In.enter (f:=zaz) g.lim rfl rfl ?_)|refine In.enter (f:=zav) g.lim rfl rfl ?_|fail)
  refine zab.to (zab.upP g (λk=>[(0,.d (.list out.length (out.flatMap Ent.cells))),(1,.fn zc8 [] [.ptr ⟨1,3,0⟩ 0 0,.ptr ⟨1,5,0⟩ 0 0]),(7,I out.length),(8,I k)]) (λ_=>mC t ev r x kn)
   (λk=>∀j,(hj:j<out.length)->j<k->z8l r.rs out[j].nm kn=false) out.length (λm hm hp ihm=>?_) 0 (Nat.zero_le _) (λj _ h=>absurd h (Nat.not_lt_zero _))) rfl rfl
  by_cases hlt:m<out.length
  ·have hwin:win (out.flatMap Ent.cells) (((m:Nat):Int).toNat*8) 8=out[m].cells:=by
    rw[Int.toNat_natCast];exact zei Ent.cells 8 zwb out m hlt
   cases hb:z8l r.rs out[m].nm kn with
   | true=>
    have ha:(out.any λy=>z8l r.rs y.nm kn)=true:=List.any_eq_true.2 ⟨_,List.getElem_mem hlt,hb⟩;rw[ha,Bool.not_true,Bool.and_false];by_cases hkn:x.kn<=kn
    all_goals repeat'((conv=>whnf);first
    | refine Yz ?_
     | (rw[hwin];refine z7q g t ev r x out[m] kn hr (slot:=16) ?_;rw[hb])
     | (exact⟨rfl,rfl,rfl,rfl,rfl,rfl,trivial⟩)
     | fail)
   | false=>
    have ihm:=ihm hlt λj hj hjm=>by
     by_cases e:j=m
     ·subst e;exact hb
     exact hp j hj (by omega)
    repeat'((conv=>whnf);first|refine Yz ?_|(rw[hwin];refine z7q g t ev r x out[m] kn hr (slot:=16) ?_;rw[hb])|refine zab.to ihm rfl rfl|fail)
  obtain rfl:m=out.length:=by omega
  have ha:(out.any λy=>z8l r.rs y.nm kn)=false:=by
   rw[List.any_eq_false];intro z hz;obtain⟨j,hj,rfl⟩:=List.mem_iff_getElem.1 hz;rw[hp j hj hj];decide
  rw[ha,Bool.not_false,Bool.and_true]
  by_cases hkn:x.kn<=kn
  ·rw[decide_eq_true hkn]
   repeat'((conv=>whnf);first|refine Yz ?_|(exact⟨rfl,rfl,rfl,rfl,rfl,rfl,trivial⟩)|fail)
  rw[decide_eq_false hkn]
  repeat'((conv=>whnf);first
  | refine Yz ?_
   | (exact⟨rfl,rfl,rfl,rfl,rfl,rfl,trivial⟩)
   | fail)
 | step k j tl hk' h ht=>
  rw[hy]at h h2;rw[h,yfd,if_pos (by omega)]at hq
  obtain⟨hj,hj'⟩:∃hj:j<r.es.length,True:=by
   cases ht with
   | stop _ hj _=>exact⟨hj,trivial⟩
   | step _ _ _ hj _ _=>exact⟨hj,trivial⟩
  have hwin:win (r.es.flatMap Ent.cells) ((0+((j:Nat):Int).toNat)*8) 8=r.es[j].cells:=by
   rw[Nat.zero_add,Int.toNat_natCast];exact zei Ent.cells 8 zwb r.es j hj
  simp only[List.length_cons]at hcl2;have ih:=ih (out++[r.es[j]],r.es[j],j,tl) ⟨⟨hj,rfl⟩,ht,out,rfl,by rw[h1,List.append_assoc];exact h2⟩ (by simp);simp only[List.length_append,List.length_cons,List.length_nil,List.flatMap_append,List.flatMap_cons,List.flatMap_nil]at ih
  repeat'((conv=>whnf);first|refine Yz ?_|(refine zgp.rec0 zwb pre.length (by omega) (by omega) rfl ?_;rw[hlast])|refine znw.of (r':=.ptr ⟨0,0,2⟩ ((0+((j:Nat):Int).toNat)*8) r.es.length) isR rfl rfl rfl rfl hq rfl rfl rfl ?_|rw[hwin]|refine zem.mk ⟨rfl,rfl,rfl,rfl,rfl,rfl,by dsimp only;omega,by omega⟩ ?_|refine zab.to ih rfl rfl|fail)
end
end Go.Proofs.YtkflcbhclegghaaGreatDoor.Co
