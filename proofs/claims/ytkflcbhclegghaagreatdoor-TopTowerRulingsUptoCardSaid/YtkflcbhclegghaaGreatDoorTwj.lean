/-
  TopTowerRulings: what its law leans on, part 10.
-/
import Derived.Laws.RangeAny
import Derived.Lib.SplitLaws
import Derived.Test.YtkflcbhclegghaaGreatDoorEvX
import Derived.Test.YtkflcbhclegghaaGreatDoorEvY
import Derived.Test.YtkflcbhclegghaaGreatDoorRead
import Derived.Test.YtkflcbhclegghaaGreatDoorSpBase
import Derived.Test.YtkflcbhclegghaaGreatDoorTwi
namespace Go.Proofs.YtkflcbhclegghaaGreatDoor.Co
open Go Go.Evl
set_option maxHeartbeats 32000000
set_option maxRecDepth 100000
abbrev LQ(l:List Rqt):V:=.d (.list l.length (l.flatMap Rqt.cells))
def yel(l:List Rqt):List (List UInt8):=l.map (·.nm)
theorem yn7{l:List Rqt}{k:Nat}(h:k<l.length):yel (l.take (k+1))=yel (l.take k)++[l[k].nm]:=by
 unfold yel;rw[List.take_add_one,List.getElem?_eq_getElem h,List.map_append]
 rfl
def z02(seen:List (List UInt8)):List Rqt->Int
 |[]=>0
 |x::r=>if zar [zv5 x,if x.nm∈seen then 9 else 0]=0 then z02 (seen++[x.nm]) r else zar [zv5 x,if x.nm∈seen then 9 else 0]
def z3v(l:List Rqt):Int:=if 64<l.length then 5 else z02 [] l
theorem z3u:∀(l:List Rqt)(seen:List (List UInt8)),z02 seen l=0->(yel l).Nodup/\(∀s∈yel l,s∉seen)/\∀x∈l,zv5 x=0
 |[],_,_=>by simp[yel]
 |x::r,seen,h=>by
  rw[z02]at h
  by_cases hz:zar [zv5 x,if x.nm∈seen then 9 else 0]=0
  ·rw[if_pos hz]at h;rw[zb2]at hz;have h1:=hz _ (List.mem_cons_self ..);have h2:=hz (if x.nm∈seen then 9 else 0) (by simp);have h2:x.nm∉seen:=λhm=>by rw[if_pos hm]at h2;cases h2
   obtain⟨a,b,c⟩:=z3u r _ h
   refine⟨?_,?_,?_⟩
   ·show(x.nm::yel r).Nodup;refine List.nodup_cons.2 ⟨λhm=>?_,a⟩;exact b _ hm (by simp)
   ·intro s hs
    rcases List.mem_cons.1 hs with rfl|hs
    ·exact h2
    exact λhm=>b s hs (by simp[hm])
   intro y hy
   rcases List.mem_cons.1 hy with rfl|hy
   ·exact h1
   exact c y hy
  rw[if_neg hz]at h;exact absurd h hz
theorem zw5{l:List Rqt}(h:z3v l=0):l.length<=64/\(yel l).Nodup/\∀x∈l,zv5 x=0:=by
 unfold z3v at h
 split at h
 ·cases h
 obtain⟨a,_,c⟩:=z3u _ _ h;exact⟨by omega,a,c⟩
def atG(s:List UInt8):Nat->List Rqt->Int
 |_,[]=>-1
 |i,x::r=>if x.nm=s then(i:Int)else atG s (i+1) r
theorem yht(s:List UInt8):∀(l:List Rqt)(i:Nat),(atG s i l=-1/\s∉yel l)\/∃(k:Nat)(h:k<l.length),atG s i l=((i+k:Nat):Int)/\l[k].nm=s/\∀(j:Nat)(hj:j<k),¬(l[j]'(Nat.lt_trans hj h)).nm=s
 |[],i=>.inl ⟨rfl,by simp[yel]⟩
 |x::r,i=>by
  rw[atG]
  by_cases hx:x.nm=s
  ·rw[if_pos hx];exact .inr ⟨0,by simp,rfl,hx,λj hj=>absurd hj (Nat.not_lt_zero _)⟩
  rw[if_neg hx]
  rcases yht s r (i+1)with⟨h1,h2⟩|⟨k,h,h1,h2,h3⟩
  ·exact .inl ⟨h1,λhm=>(List.mem_cons.1 hm).elim (λe=>hx e.symm) h2⟩
  refine .inr ⟨k+1,by simpa using h,by rw[h1];congr 1;omega,by simpa using h2,λj hj=>?_⟩;cases j with
  |zero=>simpa using hx
  |succ j=>simpa using h3 j (by omega)
section
variable{E:Oracle}(g:Good E)
include g
theorem y0i(l:List Rqt)(s:List UInt8)(hl:l.length<=1000000):Fc E z0l [LQ l,S s] (I (atG s 0 l)):=by
 refine g.fn rfl rfl ?_;generalize hR:atG s 0 l=R
 repeat'((conv=>whnf);first|refine Yz ?_)
 refine zab.to (zab.upP g (λk=>[(0,LQ l),(1,S s),(5,I k)]) (λ_=>[]) (λk=>atG s k (l.drop k)=R) l.length (λk hk h0 ih=>?_) 0 (Nat.zero_le _) hR) rfl rfl
 by_cases hlt:k<l.length
 ·rw[List.drop_eq_getElem_cons hlt,atG]at h0;have ih:=ih hlt
  by_cases hd:l[k].nm=s
  ·rw[if_pos hd]at h0;rw[<-h0]
   repeat'((conv=>whnf);first|refine Yz ?_|refine zgp.rec Rqt.cells_length k rfl hlt rfl ?_|refine Cmp.tt hd ?_|(refine Ret.mk rfl))
  rw[if_neg hd]at h0;have ih:=ih h0
  repeat'((conv=>whnf);first|refine Yz ?_|refine zgp.rec Rqt.cells_length k rfl hlt rfl ?_|refine Cmp.ff hd ?_|(refine zab.to ih rfl rfl))
 rw[List.drop_eq_nil_of_le (by omega),atG]at h0;rw[<-h0]
 repeat'((conv=>whnf);first|refine Yz ?_|(refine Ret.mk rfl))
omit g in
theorem ytk(l:List Rqt)(k:Nat)(h:k<=l.length):win (l.flatMap Rqt.cells) 0 (k*13)=(l.take k).flatMap Rqt.cells:=by
 unfold win;rw[List.drop_zero];have e:l.flatMap Rqt.cells=(l.take k).flatMap Rqt.cells++(l.drop k).flatMap Rqt.cells:=by rw[<-List.flatMap_append,List.take_append_drop]
 have hn:=zae Rqt.cells 13 Rqt.cells_length (l.take k);rw[List.length_take,Nat.min_eq_left h]at hn;rw[e,List.take_append_of_le_length (by omega),List.take_of_length_le (by omega)]
theorem z48(l:List Rqt)(hl:l.length<=1000000):Fc E zi2 [LQ l] (I (z3v l)):=by
 refine g.fn rfl rfl ?_;unfold z3v
 by_cases hn:64<l.length
 ·rw[if_pos hn]
  repeat'((conv=>whnf);first|refine Yz ?_|(refine Ret.mk rfl))
 rw[if_neg hn];generalize hR:z02 [] l=R
 repeat'((conv=>whnf);first|refine Yz ?_)
 refine zab.to (zab.upP g (λk=>[(0,LQ l),(3,I k)]) (λ_=>[]) (λk=>z02 (yel (l.take k)) (l.drop k)=R) l.length (λk hk h0 ih=>?_) 0 (Nat.zero_le _) hR) rfl rfl
 by_cases hlt:k<l.length
 ·rw[List.drop_eq_getElem_cons hlt,z02,<-yn7 hlt]at h0;have ih:=ih hlt;have hc:=z6s g l[k]
  by_cases hz:zv5 l[k]=0
  ·rw[hz]at hc h0;have ha:=y0i g (l.take k) l[k].nm (by simp;omega)
   have ht:V.d (.list (k-0) (win (l.flatMap Rqt.cells) (0*13) ((k-0)*13)))=LQ (l.take k):=by
    rw[Nat.zero_mul,Nat.sub_zero,ytk l k (by omega),LQ,List.length_take,Nat.min_eq_left (by omega)]
   rcases yht l[k].nm (l.take k) 0 with⟨h1,h2⟩|⟨j,hj,h1,h2,_⟩
   ·rw[if_neg h2,if_pos (by decide)]at h0;have ih:=ih h0;rw[h1]at ha
    repeat'((conv=>whnf);first|refine Yz ?_|refine za2.rec Rqt.cells_length k rfl hlt ?_|refine zgp.rec Rqt.cells_length k rfl hlt rfl ?_|refine zaf.of hc ?_|refine zaf.of ha ?_|(refine zom.at 0 k rfl rfl (by omega) ?_<;>(try rw[ht]))|(refine zab.to ih rfl rfl))
   have hm:l[k].nm∈yel (l.take k):=by
    unfold yel;rw[List.mem_map];exact⟨_,List.getElem_mem hj,h2⟩
   rw[if_pos hm,if_neg (by decide)]at h0;rw[<-h0];rw[h1]at ha
   repeat'((conv=>whnf);first|refine Yz ?_|refine za2.rec Rqt.cells_length k rfl hlt ?_|refine zgp.rec Rqt.cells_length k rfl hlt rfl ?_|refine zaf.of hc ?_|refine zaf.of ha ?_|(refine zom.at 0 k rfl rfl (by omega) ?_<;>(try rw[ht]))|(refine Ret.mk rfl))
  have e:∀x,zar [zv5 l[k],x]=zv5 l[k]:=λx=>by simp[zar,hz]
  rw[e,if_neg hz]at h0;rw[<-h0]
  repeat'((conv=>whnf);first|refine Yz ?_|refine za2.rec Rqt.cells_length k rfl hlt ?_|refine zaf.of hc ?_|refine Cmp.ff hz ?_|(refine Ret.mk rfl))
 rw[List.drop_eq_nil_of_le (by omega),z02]at h0;rw[<-h0]
 repeat'((conv=>whnf);first|refine Yz ?_|(refine Ret.mk rfl))
theorem yv1(l:List Rqt)(n:Nat)(hn:n<=64):Fc E zsq [LQ l,I n] (B (decide (l.length<=n\/l.length=65)&&l.all zx1)):=by
 refine g.fn rfl rfl ?_
 by_cases hl:l.length<=n\/l.length=65
 ·rw[decide_eq_true hl,Bool.true_and]
  repeat'((conv=>whnf);first|refine Yz ?_|(refine Cmp.mk (λh=>?_) (λh=>?_))|(refine Rem.any (by omega) (λr hr he=>?_))|(refine Br.mk (λh=>?_) (λh=>?_))|(exfalso;omega))
  all_goals
   refine zab.to (zab.upP g (λk=>[(0,LQ l),(5,I k)]) (λ_=>[]) (λk=>∀i(h:i<l.length),i<k->zx1 l[i]=true) l.length (λk hk hp ih=>?_) 0 (Nat.zero_le _) (λi _ hi=>absurd hi (Nat.not_lt_zero _))) rfl rfl
   by_cases hlt:k<l.length
   ·have hb:=yvz g l[k]
    cases hq:zx1 l[k]
    ·have hno:l.all zx1=false:=by
      rw[List.all_eq_false];exact⟨_,List.getElem_mem hlt,by rw[hq];decide⟩
     rw[hno];rw[hq]at hb
     repeat'((conv=>whnf);first|refine Yz ?_|refine za2.rec Rqt.cells_length k rfl hlt ?_|refine zaf.of hb ?_|(refine Ret.mk rfl))
    rw[hq]at hb
    have ih:=ih hlt λi h hi=>by
     by_cases e:i=k
     ·subst e;exact hq
     exact hp i h (by omega)
    repeat'((conv=>whnf);first|refine Yz ?_|refine za2.rec Rqt.cells_length k rfl hlt ?_|refine zaf.of hb ?_|(refine zab.to ih rfl rfl))
   have hall:l.all zx1=true:=List.all_eq_true.2 λx hx=>by
    obtain⟨i,hi,rfl⟩:=List.getElem_of_mem hx;exact hp i hi (by omega)
   rw[hall]
   repeat'((conv=>whnf);first|refine Yz ?_|(refine Ret.mk rfl))
 rw[decide_eq_false hl,Bool.false_and]
 repeat'((conv=>whnf);first|refine Yz ?_|(refine Cmp.mk (λh=>?_) (λh=>?_))|(refine Rem.any (by omega) (λr hr he=>?_))|(refine Br.mk (λh=>?_) (λh=>?_))|refine Ret.mk rfl|(exfalso;omega))
end
def yml(q:Rqt):Wsh:=⟨q,max 0 (q.mi-20),min 1439 (q.mi+20)⟩
structure yem(l:List Rqt):Prop where
 len:l.length<=4
 chk:z3v l=0
 li:∀q∈l,q.li=[]
 few:∀q∈l,q.to-q.fr<8
theorem yem.nd{l:List Rqt}(h:yem l):(yel l).Nodup:=(zw5 h.chk).2.1
theorem yem.ok{l:List Rqt}(h:yem l):∀q∈l,zv5 q=0:=(zw5 h.chk).2.2
theorem zmy{q:Rqt}(h:zv5 q=0):zcd q.ca=true/\zcd q.pa=true/\ziv q.fr q.to q.da=0/\(0<=q.mi/\q.mi<=1439)/\zt3 q=0:=by
 unfold zv5 at h;rw[zb2]at h;simp only[List.mem_cons,List.not_mem_nil,or_false,forall_eq_or_imp,forall_eq]at h;obtain⟨h1,h2,h3,h4,h5,h6,h7,h8,h9,h10,h11,h12⟩:=h
 have nm:∀s,nmE s=0->zcd s=true:=λs h=>by
  unfold nmE at h;cases hb:zcd s with
  |true=>rfl
  |false=>rw[hb]at h;simp at h
 refine⟨nm _ h2,nm _ h3,h8,zib.1 h9,?_⟩;unfold zt3;rw[zb2];simp only[List.mem_cons,List.not_mem_nil,or_false,forall_eq_or_imp,forall_eq];refine⟨h1,h6,h4,h8,h9,?_⟩;unfold ldE;rw[zb2];simp only[List.mem_cons,List.not_mem_nil,or_false,forall_eq_or_imp,forall_eq];rw[zib]at h10 h11 h12;exact⟨zib.2 h10,zib.2 (by omega),zib.2 h12⟩
theorem yx2{q:Rqt}{ea la:Int}(h:zv5 q=0)(hl:q.li=[])(he:0<=ea/\ea<=q.mi)(hb:q.mi<=la/\la<=1439)(hf:la-ea<=40):OkW ⟨q,ea,la⟩:=
 ⟨(zmy h).2.2.2.2,(zmy h).1,.inr (zmy h).2.1,hl,he,hb,by show(q.mi-ea)/20+(la-q.mi)/20<=2;omega⟩
theorem yxy{q:Rqt}(h:zv5 q=0)(hf:q.to-q.fr<8)(m:Int)(h0:0<=m)(h1:m<=1439):(yf2 {q with mi:=m}).length<=8/\∀x∈yf2 {q with mi:=m},0<=x.mo/\x.mo<=143999999:=by
 have hp:=zfl.1 (zmy h).2.2.1;have hl:=ziw q.fr q.da (q.to-q.fr+1).toNat
 constructor
 ·unfold yf2 z9j;rw[List.length_map];show(zm0 q.fr q.da (q.to-q.fr+1).toNat).length<=8;omega
 intro x hx;unfold yf2 z9j at hx;obtain⟨d,hd,rfl⟩:=List.mem_map.1 hx;have hd:=(z4u _).1 hd;show 0<=1440*d+m/\1440*d+m<=143999999;dsimp only at hd;omega
theorem ywi{W:List Wsh}(ok:∀w∈W,OkW w)(nd:(ylc W).Nodup)(len:W.length<=64)(hc:∀w∈W,zv5 w.r=0/\w.r.to-w.r.fr<8):z8z W:=
 ⟨⟨ok,nd,len⟩,λw hw m h0 h1=>yxy (hc w hw).1 (hc w hw).2 m h0 h1⟩
theorem yr5(l:List Rqt):ylc (l.map yml)=yel l:=by
 unfold ylc yel;rw[List.map_map]
 rfl
theorem yvx{l:List Rqt}(h:yem l){q:Rqt}(hq:q∈l):OkW (yml q):=by
 have hm:=(zmy (h.ok q hq)).2.2.2.1;exact yx2 (h.ok q hq) (h.li q hq) (by omega) (by omega) (by omega)
theorem yta{l:List Rqt}(h:yem l):z8z (l.map yml):=by
 refine ywi (λw hw=>?_) (by rw[yr5];exact h.nd) (by rw[List.length_map];have:=h.len;omega) λw hw=>?_
 ·obtain⟨q,hq,rfl⟩:=List.mem_map.1 hw;exact yvx h hq
 obtain⟨q,hq,rfl⟩:=List.mem_map.1 hw;exact⟨h.ok q hq,h.few q hq⟩
theorem z8z.take{l:List Wsh}(h:z8z l)(k:Nat):z8z (l.take k):=⟨h.ok.take k,λw hw=>h.mv w (List.mem_of_mem_take hw)⟩
theorem yhb(ls:List Lmt):∀(P:List Mvt)(l:List Wsh)(i:Nat)(h:i<l.length)(h2:i<(z16 ls P l).length),(z16 ls P l)[i].nm=l[i].r.nm/\((z16 ls P l)[i].gr=true->(z16 ls P l)[i].mi∈yej l[i])
 |_,[],i,h,_=>absurd h (Nat.not_lt_zero i)
 |P,w::r,0,_,_=>by
  simp only[z16,List.getElem_cons_zero];cases h:yra ls P w with
  |none=>exact⟨rfl,λhg=>by cases hg⟩
  |some m=>exact⟨rfl,λ_=>List.mem_of_find?_eq_some h⟩
 |P,w::r,i+1,h,h2=>by
  simp only[z16,List.getElem_cons_succ]at h2⊢;exact yhb ls _ r i (by simpa using h) _
def okT:yy8->List yy8->Prop
 |_,[]=>True
 |b,t::ts=>b.kn<t.kn/\t.kn<=99999/\t.mi≠b.mi/\okT t ts
structure Lat(r r':Rgs)(F:Int):Prop where
 es:∃more,r'.es=r.es++more/\∀x∈more,F<x.kn
 rm:∀nm,z8l r'.rs nm F=z8l r.rs nm F
theorem Lat.refl(r:Rgs)(F:Int):Lat r r F:=⟨⟨[],by simp,by simp⟩,λ_=>rfl⟩
theorem Lat.trans{a b c:Rgs}{F:Int}(h:Lat a b F)(k:Lat b c F):Lat a c F:=by
 obtain⟨⟨m1,e1,h1⟩,r1⟩:=h;obtain⟨⟨m2,e2,h2⟩,r2⟩:=k;refine⟨⟨m1++m2,by rw[e2,e1,List.append_assoc],λx hx=>?_⟩,λnm=>(r2 nm).trans (r1 nm)⟩
 rcases List.mem_append.1 hx with hx|hx
 ·exact h1 x hx
 exact h2 x hx
theorem ye6{r:Rgs}{x:Ent}{F:Int}(h:F<x.kn):zw6 r x F=false:=by
 unfold zw6;rw[decide_eq_false (by omega)]
 rfl
theorem ywl(es:List Ent):∀x∈es,x.sr∈srK es:=by
 have key:∀(es:List Ent)(ks:List (List UInt8))(s:List UInt8),(s∈ks\/∃x∈es,x.sr=s)->s∈es.foldl (λks x=>yeg ks x.sr) ks:=by
  intro es;induction es with
  |nil=>
   intro ks s h
   rcases h with h|⟨x,hx,_⟩
   ·exact h
   cases hx
  |cons y es ih=>
   intro ks s h;rw[List.foldl_cons];refine ih _ s ?_
   rcases h with h|⟨x,hx,rfl⟩
   ·left;unfold yeg;split
    ·exact h
    simp[h]
   rcases List.mem_cons.1 hx with rfl|hx
   ·left;unfold yeg;split
    ·assumption
    simp
   exact .inr ⟨x,hx,rfl⟩
 exact λx hx=>key es [] x.sr (.inr ⟨x,hx,rfl⟩)
theorem yfy{r:Rgs}{s:List UInt8}(h:s∉srK r.es)(kn d:Int):yi2 r s kn d=1440:=by
 refine ycz λj hj=>?_
 have:r.es[j].sr≠s:=λe=>h (e▸ywl r.es _ (List.getElem_mem hj))
 unfold ymi;rw[decide_eq_false this]
 rfl
theorem ys9(r:Rgs)(kn d:Int):(ypr r kn d).Pairwise λa b=>zal a.sr b.sr=true:=by
 unfold ypr ywh;rw[List.pairwise_map];exact(ypt (yp0 r.es)).filter _
def yzh(r:Rgs)(x:Ent)(on:List UInt8):Bool:=(chF r.es.length r.es x).any λy=>decide (y.nm=on)
theorem yhw{r:Rgs}(ho:OkR r){k:Nat}(hk:k<r.es.length)(h:r.es[k].bs=[]):chF r.es.length r.es r.es[k]=[r.es[k]]:=
 (zyk ho.bases r.es.length k (by omega) hk).det (.stop k hk (by rw[h];exact yff ho.nm))
theorem yq8{r:Rgs}(ho:OkR r){k j:Nat}(hk:k<r.es.length)(hj:j<k)(h:zph r.es r.es[k].bs=j):chF r.es.length r.es r.es[k]=r.es[k]::chF r.es.length r.es (r.es[j]'(by omega)):=
 (zyk ho.bases r.es.length k (by omega) hk).det (.step k j _ hk h (zyk ho.bases r.es.length j (by omega) (by omega)))
theorem yti{r:Rgs}(ho:OkR r){k:Nat}(hk:k<r.es.length)(h:r.es[k].bs=[])(on:List UInt8):yzh r r.es[k] on=decide (r.es[k].nm=on):=by
 unfold yzh;rw[yhw ho hk h];simp
theorem ysp{r:Rgs}(ho:OkR r){k:Nat}(hk:k<r.es.length)(h:r.es[k].bs=[])(on:List UInt8):ylj r r.es[k] on=false:=by
 unfold ylj;rw[yhw ho hk h]
 rfl
theorem yso{r:Rgs}(ho:OkR r){k j:Nat}(hk:k<r.es.length)(hj:j<k)(h:zph r.es r.es[k].bs=j)(on:List UInt8):ylj r r.es[k] on=yzh r (r.es[j]'(by omega)) on:=by
 unfold ylj yzh;rw[yq8 ho hk hj h,List.tail_cons]
def y0j:List UInt8:=[116,111,112]
def sS:List UInt8:=[115]
theorem z9p{l:List Evt}{e:Evt}(h:erL l=0)(hs:zpf (rgL l) l.length e=0):erL (l++[e])=0/\rgL (l++[e])=ya9 (rgL l) e:=by
 have h1:=ydi l rg0 0 [e];have h0:(zj2 rg0 0 l).2.2=0:=h;rw[if_neg (λhn=>hn h0),Nat.zero_add]at h1
 have h2:zj2 (zj2 rg0 0 l).1 l.length [e]=(ya9 (rgL l) e,0,0):=by
  rw[zvb];rw[if_neg (λhn=>hn hs)]
  rfl
 rw[h2]at h1;exact⟨by unfold erL;rw[h1],by unfold rgL;rw[h1]⟩
structure yy5(r0 r:Rgs)(own:List (List UInt8)):Prop where
 ex:∃xs:List Ent,r.es=r0.es++xs/\xs.map Ent.nm=own/\∀i,(hi:i<xs.length)->xs[i].kn=r0.kn/\xs[i].sr=sS/\xs[i].fr=0/\xs[i].to=9/\xs[i].mi=(if i=0 then 600 else 601)/\(i=0->xs[i].bs=[]/\xs[i].kd=zue)/\(0<i->∃j,∃hj:j<i,xs[i].bs=(xs[j]'(by omega)).nm)
 rs:r.rs=r0.rs
 kn:r.kn=r0.kn
 no:own.Nodup
 fr:∀nm∈own,zph r0.es nm=-1
 hd:own.head?=some y0j
theorem yy5.len{r0 r:Rgs}{own:List (List UInt8)}(h:yy5 r0 r own):r.es.length=r0.es.length+own.length:=by
 obtain⟨xs,h1,h2,_⟩:=h.ex;rw[h1,List.length_append,<-h2,List.length_map]
theorem yy5.at{r0 r:Rgs}{own:List (List UInt8)}(h:yy5 r0 r own){i:Nat}(hi:i<own.length):zph r.es own[i]=(r0.es.length+i:Nat)/\(r.es[r0.es.length+i]'(by rw[h.len];omega)).nm=own[i]:=by
 obtain⟨xs,h1,h2,_⟩:=h.ex;have hx:xs.length=own.length:=by rw[<-h2,List.length_map]
 have hn:∀j,(hj:j<own.length)->(xs[j]'(by omega)).nm=own[j]:=λj hj=>by simp only[<-h2,List.getElem_map]
 have hfr:=h.fr _ (List.getElem_mem hi)
 have hno:∀j,(hj:j<r0.es.length)->r0.es[j].nm≠own[i]:=by
  rcases zg1 r0.es own[i]with⟨_,h3⟩|⟨j,hj,e,_⟩
  ·exact h3
  omega
 have he:(r.es[r0.es.length+i]'(by rw[h.len];omega)).nm=own[i]:=by
  simp only[h1];rw[List.getElem_append_right (by omega)];simp only[Nat.add_sub_cancel_left];exact hn i hi
 refine⟨z0k (p:=λx:Ent=>decide (x.nm=own[i])) (by rw[h.len];omega) (decide_eq_true he) λj hj=>decide_eq_false ?_,he⟩
 by_cases hl:j<r0.es.length
 ·simp only[h1];rw[List.getElem_append_left hl];exact hno j hl
 simp only[h1];rw[List.getElem_append_right (by omega)];rw[hn (j-r0.es.length) (by omega)];intro e;have:=(List.getElem_inj h.no).1 e;omega
theorem zzf{r:Rgs}{n:Nat}{e:Evt}(hc:ye4 e=0)(ha:ymf r n e=0):zpf r n e=0:=by
 unfold zpf;rw[if_neg (λh=>h hc)];exact ha
theorem zxm{r:Rgs}{n:Nat}{e:Evt}(hn:e.nu=n+1)(hk:r.kn<=vlN e 0)(hk2:vlN e 0<=99999):yqm r n e=0:=by
 unfold yqm;rw[if_pos hn,if_neg (by omega),if_neg (by omega)]
 rfl
theorem z19{r:Rgs}{n:Nat}{e:Evt}(h:yqm r n e=0):ymf r n e=yeh r e:=by
 unfold ymf;rw[if_neg (λhn=>hn h)]
theorem yet{r:Rgs}{e:Evt}(h:yk3 e.ki=true):yeh r e=zv8 r (decide (e.ki=zdg)) (nmN e 0) (nmN e 2) (vlN e 0) (vlN e 1) (vlN e 2) (vlN e 3):=by
 unfold yeh;rw[if_pos h]
theorem z84{r:Rgs}{fol:Bool}{nm b:List UInt8}{kn f t m:Int}(h1:zph r.es nm=-1)(h2:r.es.length<256)(h3:fol=true->zv6 r b kn=0)(h4:f<=99999)(h5:t<=99999)(h6:m<=1440)(h7:f<=t):zv8 r fol nm b kn f t m=0:=by
 have hn:yw4 r nm=0:=by
  unfold yw4;rw[h1,if_neg (by omega),if_neg (by omega)]
  rfl
 unfold zv8;rw[if_neg (λh=>h hn),if_neg (λh=>h.2 (h3 h.1)),if_neg (by omega),if_neg (by omega)]
 rfl
theorem z2e{e:Evt}(h1:1<=e.nu/\e.nu<=1000)(h2:z4n e.ki=true)(h3:e.ns.length=yck e.ki/\e.vs.length=yfm e.ki)(h4:∀s∈e.ns,zcd s=true)(h5:∀v∈e.vs,0<=v/\v<=999999999)(h6:e.tx=[]):ye4 e=0:=by
 have hn:zp4 e.ns=false:=by
  unfold zp4;rw[List.any_eq_false];intro s hs;rw[h4 s hs];decide
 have hf:far e.vs=false:=by
  unfold far;rw[List.any_eq_false];intro v hv;have:=h5 v hv;unfold yw0;rw[decide_eq_true_eq];omega
 have hr:rng e.nu 1 1000=0:=if_neg (by omega);have hs:¬(e.ns.length≠yck e.ki\/e.vs.length≠yfm e.ki):=λh=>h.elim (λh=>h h3.1) (λh=>h h3.2)
 have hx:¬(e.tx≠[]):=λh=>h h6
 unfold ye4;rw[hr,h2,hn,hf,if_neg hs,if_neg hx]
 rfl
structure Tq where
 nm:List UInt8
 (fr to mi:Int)
 gr:Bool
def mnT(q:Tq):Int:=if q.gr then q.mi else 1440
structure TwC(N:Nat)(q:Nat->Tq):Prop where
 few:N<=3
 nm:∀i,i<N->zcd (q i).nm=true
 per:∀i,i<N->0<=(q i).fr/\(q i).fr<=(q i).to/\(q i).to<=99999
 mi:∀i,i<N->(q i).gr=true->0<=(q i).mi/\(q i).mi<=1439
 nd:∀i j,i<N->j<N->(q i).nm=(q j).nm->i=j
def tnm(c:UInt8)(k:Nat):List UInt8:=[c,UInt8.ofNat (48+k)]
theorem zvg{c:UInt8}(hc:c=101\/c=114\/c=102){k:Nat}(hk:k<3):zcd (tnm c k)=true:=by
 have:k=0\/k=1\/k=2:=by omega
 rcases this with rfl|rfl|rfl<;>rcases hc with rfl|rfl|rfl<;>decide
theorem zh4{c c':UInt8}{k k':Nat}(hk:k<3)(hk':k'<3)(h:tnm c k=tnm c' k'):c=c'/\k=k':=by
 unfold tnm at h;injection h with h1 h2
 injection h2 with h3
 refine⟨h1,?_⟩;have a:k=0\/k=1\/k=2:=by omega
 have b:k'=0\/k'=1\/k'=2:=by omega
 rcases a with rfl|rfl|rfl<;>rcases b with rfl|rfl|rfl<;>first|rfl|exact absurd h3 (by decide)
def enE(q:Nat->Tq)(i:Nat):Ent:=⟨tnm 101 i,zp0,(q i).nm,[],5,(q i).fr,(q i).to,mnT (q i)⟩
def ruE(q:Nat->Tq)(i:Nat):Ent:=⟨tnm 114 i,zue,(q i).nm,[],8,(q i).fr,(q i).to,1440⟩
def sZz:List UInt8:=[122,122,95,115,112,97,114,101]
def foE(F T:Int)(b:List Nat)(i:Nat):Ent:=⟨tnm 102 i,zdg,sZz,tnm 114 (b.getD i 0),9,F,T,700⟩
def esT(q:Nat->Tq)(n:Nat)(b:List Nat)(F T:Int)(j:Nat):List Ent:=(List.range n).map (enE q)++b.map (ruE q)++(List.range j).map (foE F T b)
theorem zlk{q:Nat->Tq}{n:Nat}{b:List Nat}{F T:Int}{j:Nat}{x:Ent}:x∈esT q n b F T j↔(∃i,i<n/\x=enE q i)\/(∃i,i∈b/\x=ruE q i)\/∃i,i<j/\x=foE F T b i:=by
 unfold esT;simp only[List.mem_append,List.mem_map,List.mem_range,or_assoc]
 constructor
 ·rintro(⟨i,h,rfl⟩|⟨i,h,rfl⟩|⟨i,h,rfl⟩)
  ·exact .inl ⟨i,h,rfl⟩
  ·exact .inr (.inl ⟨i,h,rfl⟩)
  exact .inr (.inr ⟨i,h,rfl⟩)
 rintro(⟨i,h,rfl⟩|⟨i,h,rfl⟩|⟨i,h,rfl⟩)
 ·exact .inl ⟨i,h,rfl⟩
 ·exact .inr (.inl ⟨i,h,rfl⟩)
 exact .inr (.inr ⟨i,h,rfl⟩)
abbrev evE(q:Nat->Tq)(m i:Nat):Evt:=⟨(m:Int)+1,zp0,[tnm 101 i,(q i).nm],[5,(q i).fr,(q i).to,mnT (q i)],[]⟩
abbrev evU(q:Nat->Tq)(m i:Nat):Evt:=⟨(m:Int)+1,zue,[tnm 114 i,(q i).nm],[8,(q i).fr,(q i).to,1440],[]⟩
abbrev evY(F T:Int)(b:List Nat)(m i:Nat):Evt:=⟨(m:Int)+1,zdg,[tnm 102 i,sZz,tnm 114 (b.getD i 0)],[9,F,T,700],[]⟩
abbrev evX(b:List Nat)(m i:Nat):Evt:=⟨(m:Int)+1,zeo,[tnm 114 (b.getD i 0)],[12],[]⟩
def yqw(es:List Ent):Prop:=∀x∈es,∀y∈es,x.nm=y.nm->x=y
theorem z9q{q:Nat->Tq}{n:Nat}{b:List Nat}{F T:Int}{j:Nat}(hn:n<=3)(hb:∀i∈b,i<3)(hj:j<=3):yqw (esT q n b F T j):=by
 intro x hx y hy h
 rcases zlk.1 hx with⟨i,hi,rfl⟩|⟨i,hi,rfl⟩|⟨i,hi,rfl⟩<;>rcases zlk.1 hy with⟨k,hk,rfl⟩|⟨k,hk,rfl⟩|⟨k,hk,rfl⟩
 ·rw[(zh4 (by omega) (by omega) h).2]
 ·exact absurd (zh4 (by omega) (hb k hk) h).1 (by decide)
 ·exact absurd (zh4 (by omega) (by omega) h).1 (by decide)
 ·exact absurd (zh4 (hb i hi) (by omega) h).1 (by decide)
 ·rw[(zh4 (hb i hi) (hb k hk) h).2]
 ·exact absurd (zh4 (hb i hi) (by omega) h).1 (by decide)
 ·exact absurd (zh4 (by omega) (by omega) h).1 (by decide)
 ·exact absurd (zh4 (by omega) (hb k hk) h).1 (by decide)
 rw[(zh4 (by omega) (by omega) h).2]
theorem yfe{es:List Ent}{nm:List UInt8}(h:∀x∈es,x.nm≠nm):zph es nm=-1:=by
 rcases zg1 es nm with⟨e,_⟩|⟨k,hk,_,e,_⟩
 ·exact e
 exact absurd e (h _ (List.getElem_mem hk))
theorem yh6{es:List Ent}(hi:yqw es){x:Ent}(hx:x∈es):∃k,∃hk:k<es.length,zph es x.nm=(k:Nat)/\es[k]=x:=by
 rcases zg1 es x.nm with⟨_,h⟩|⟨k,hk,e,h,_⟩
 ·obtain⟨k,hk,rfl⟩:=List.getElem_of_mem hx;exact absurd rfl (h k hk)
 exact⟨k,hk,e,hi _ (List.getElem_mem hk) _ hx h⟩
theorem yhz{r:Rgs}(ho:OkR r){x:Ent}(hx:x∈r.es)(h:x.bs=[])(kn:Int):zw6 r x kn=(decide (x.kn<=kn)&& !z8l r.rs x.nm kn):=by
 obtain⟨k,hk,rfl⟩:=List.getElem_of_mem hx;exact yrd ho hk h kn
theorem ymz{r:Rgs}(ho:OkR r)(hi:yqw r.es){x y:Ent}(hx:x∈r.es)(hy:y∈r.es)(h:x.bs=y.nm):∃(k j:Nat)(hk:k<r.es.length)(hj:j<k),r.es[k]=x/\(r.es[j]'(by omega))=y/\zph r.es r.es[k].bs=j:=by
 obtain⟨k,hk,rfl⟩:=List.getElem_of_mem hx;obtain⟨j,hj,e,h2⟩:=yh6 hi hy
 rcases ho.bs k hk with hz|⟨j',hj',e'⟩
 ·exact absurd (h▸hz) (ho.nm _ hy)
 rw[h,e]at e';obtain rfl:j=j':=by omega
 exact⟨k,j,hk,hj',rfl,h2,by rw[h,e]⟩
theorem yxk{r:Rgs}(ho:OkR r)(hi:yqw r.es){x y:Ent}(hx:x∈r.es)(hy:y∈r.es)(h:x.bs=y.nm){kn:Int}(hc:zw6 r y kn=false):zw6 r x kn=false:=by
 obtain⟨k,j,hk,hj,rfl,rfl,e⟩:=ymz ho hi hx hy h;rw[yrc ho hk hj e,hc,Bool.and_false]
theorem yoj{r:Rgs}(hi:yqw r.es){x:Ent}(hx:x∈r.es){kn:Int}(hc:zw6 r x kn=true):zv6 r x.nm kn=0:=by
 obtain⟨k,hk,e,rfl⟩:=yh6 hi hx;rw[z40 hk e,hc]
 rfl
structure TwR(q:Nat->Tq)(n:Nat)(b:List Nat)(F T:Int)(j k:Nat)(D:Int)(L:List Evt):Prop where
 er:erL L=0
 es:(rgL L).es=esT q n b F T j
 rs:(rgL L).rs=(b.take k).map λi=>⟨tnm 114 i,12⟩
 kn:(rgL L).kn<=D
 len:L.length=n+b.length+j+k
 bd:∀e∈L,e.ns.length<=3/\e.vs.length<=4
theorem TwR.mono{q:Nat->Tq}{n:Nat}{b:List Nat}{F T:Int}{j k:Nat}{D D':Int}{L:List Evt}(h:TwR q n b F T j k D L)(hd:D<=D'):TwR q n b F T j k D' L:={h with kn:=by have:=h.kn;omega}
theorem TwR.start(q:Nat->Tq)(F T:Int):TwR q 0 [] F T 0 0 5 []:=⟨rfl,rfl,rfl,by decide,rfl,λe h=>absurd h (List.not_mem_nil)⟩
theorem TwR.ok{q:Nat->Tq}{n:Nat}{b:List Nat}{F T:Int}{j k:Nat}{D:Int}{L:List Evt}(h:TwR q n b F T j k D L)(hl:L.length<=1000):OkR (rgL L):=yo2 hl h.er
theorem z88{L:List Evt}{e:Evt}(h:∀e∈L,e.ns.length<=3/\e.vs.length<=4)(he:e.ns.length<=3/\e.vs.length<=4):∀x∈L++[e],x.ns.length<=3/\x.vs.length<=4:=by
 intro x hx
 rcases List.mem_append.1 hx with hx|hx
 ·exact h x hx
 rw[List.mem_singleton.1 hx];exact he
theorem TwR.cntB{q:Nat->Tq}{N:Nat}{F T:Int}{b:List Nat}{j k:Nat}{D:Int}{L:List Evt}(h:TwR q N b F T j k D L)(hL:L.length<=1000){kn:Int}(hk:8<=kn)(hk2:kn<12){i:Nat}(hi:i∈b):zw6 (rgL L) (ruE q i) kn=true:=by
 have hx:ruE q i∈(rgL L).es:=by rw[h.es];exact zlk.2 (.inr (.inl ⟨i,hi,rfl⟩))
 rw[yhz (h.ok hL) hx rfl,h.rs,decide_eq_true (show(ruE q i).kn<=kn from hk),Bool.true_and,Bool.not_eq_true'];unfold z8l;rw[List.any_eq_false];intro z hz;obtain⟨m,hm,rfl⟩:=List.mem_map.1 hz;simp only[decide_eq_true_eq];exact λe=>absurd e.2 (show ¬(12:Int)<=kn by omega)
section
variable{q:Nat ->Tq}{N:Nat}(hc:TwC N q)
include hc
theorem yn4{i:Nat}(hi:i<N):0<=mnT (q i)/\mnT (q i)<=1440:=by
 unfold mnT
 split
 ·rename_i h;have:=hc.mi i hi h;omega
 exact⟨by decide,by decide⟩
theorem TwR.enter{F T:Int}{n:Nat}{L:List Evt}(h:TwR q n [] F T 0 0 5 L)(hn:n<N):TwR q (n+1) [] F T 0 0 5 (L++[evE q L.length n]):=by
 have hf:=hc.few;have hp:=hc.per n hn;have hm:=yn4 hc hn;have hl:=h.len;simp only[List.length_nil]at hl
 have hs:zpf (rgL L) L.length (evE q L.length n)=0:=by
  refine zzf (z2e ⟨by dsimp only;omega,by dsimp only;omega⟩ rfl ⟨rfl,rfl⟩ ?_ ?_ rfl) ?_
  ·simp only[List.mem_cons,List.not_mem_nil,or_false,forall_eq_or_imp,forall_eq];exact⟨zvg (.inl rfl) (by omega),hc.nm n hn⟩
  ·simp only[List.mem_cons,List.not_mem_nil,or_false,forall_eq_or_imp,forall_eq];omega
  rw[z19 (zxm (e:=evE q L.length n) rfl h.kn (show(5:Int)<=99999 by decide)),yet rfl];refine z84 (yfe λx hx=>?_) (by rw[h.es];simp[esT];omega) (λh=>absurd (of_decide_eq_true h:zp0=zdg) (by decide)) (by show(q n).fr<=_;omega) hp.2.2 hm.2 hp.2.1;rw[h.es]at hx
  rcases zlk.1 hx with⟨i,hi,rfl⟩|⟨i,hi,rfl⟩|⟨i,hi,rfl⟩
  ·exact λe=>absurd (zh4 (by omega) (by omega) e).2 (by omega)
  ·exact absurd hi List.not_mem_nil
  exact absurd hi (Nat.not_lt_zero _)
 obtain⟨a1,a2⟩:=z9p h.er hs;refine⟨a1,?_,by rw[a2];exact h.rs,by rw[a2];exact Int.le_refl 5,by simp[hl],z88 h.bd ⟨show 2<=3 by decide,show 4<=4 by decide⟩⟩;rw[a2];show(rgL L).es++[enE q n]=_;rw[h.es];simp[esT,List.range_succ]
theorem TwR.rule{F T:Int}{b:List Nat}{L:List Evt}(h:TwR q N b F T 0 0 8 L){i:Nat}(hi:i<N)(hb:i∉b)(hb3:∀k∈b,k<N)(hbl:b.length<=3):TwR q N (b++[i]) F T 0 0 8 (L++[evU q L.length i]):=by
 have hf:=hc.few;have hp:=hc.per i hi;have hl:=h.len
 have hs:zpf (rgL L) L.length (evU q L.length i)=0:=by
  refine zzf (z2e ⟨by dsimp only;omega,by dsimp only;omega⟩ rfl ⟨rfl,rfl⟩ ?_ ?_ rfl) ?_
  ·simp only[List.mem_cons,List.not_mem_nil,or_false,forall_eq_or_imp,forall_eq];exact⟨zvg (.inr (.inl rfl)) (by omega),hc.nm i hi⟩
  ·simp only[List.mem_cons,List.not_mem_nil,or_false,forall_eq_or_imp,forall_eq];omega
  rw[z19 (zxm (e:=evU q L.length i) rfl h.kn (show(8:Int)<=99999 by decide)),yet rfl];refine z84 (yfe λx hx=>?_) (by rw[h.es];simp[esT];omega) (λh=>absurd (of_decide_eq_true h:zue=zdg) (by decide)) (by show(q i).fr<=_;omega) hp.2.2 (show(1440:Int)<=1440 by decide) hp.2.1;rw[h.es]at hx
  rcases zlk.1 hx with⟨k,hk,rfl⟩|⟨k,hk,rfl⟩|⟨k,hk,rfl⟩
  ·exact λe=>absurd (zh4 (by omega) (by omega) e).1 (by decide)
  ·exact λe=>hb ((zh4 (by have:=hb3 k hk;omega) (by omega) e).2▸hk)
  exact absurd hk (Nat.not_lt_zero _)
 obtain⟨a1,a2⟩:=z9p h.er hs;refine⟨a1,?_,by rw[a2];exact h.rs,by rw[a2];exact Int.le_refl 8,by simp[hl];omega,z88 h.bd ⟨show 2<=3 by decide,show 4<=4 by decide⟩⟩;rw[a2];show(rgL L).es++[ruE q i]=_;rw[h.es];simp[esT]
theorem TwR.cntA{F T:Int}{b:List Nat}{j k:Nat}{D:Int}{L:List Evt}(h:TwR q N b F T j k D L)(hL:L.length<=1000)(hb3:∀k∈b,k<N){kn:Int}(hk:5<=kn){i:Nat}(hi:i<N):zw6 (rgL L) (enE q i) kn=true:=by
 have hf:=hc.few;have hx:enE q i∈(rgL L).es:=by rw[h.es];exact zlk.2 (.inl ⟨i,hi,rfl⟩)
 rw[yhz (h.ok hL) hx rfl,h.rs,decide_eq_true (show(enE q i).kn<=kn from hk),Bool.true_and,Bool.not_eq_true'];unfold z8l;rw[List.any_eq_false];intro z hz;obtain⟨m,hm,rfl⟩:=List.mem_map.1 hz;have hm:=hb3 m (List.mem_of_mem_take hm);simp only[decide_eq_true_eq];exact λe=>absurd (zh4 (by omega) (by omega) e.1).1 (by decide)
theorem TwR.follow{F T:Int}{b:List Nat}{j:Nat}{L:List Evt}(h:TwR q N b F T j 0 9 L)(hj:j<b.length)(hb3:∀k∈b,k<N)(hbl:b.length<=3)(hF:0<=F/\F<=T/\T<=99999):TwR q N b F T (j+1) 0 9 (L++[evY F T b L.length j]):=by
 have hf:=hc.few;have hl:=h.len
 have hg:b.getD j 0∈b:=by
  rw[List.getD_eq_getElem?_getD,List.getElem?_eq_getElem hj];exact List.getElem_mem hj
 have hi:yqw (rgL L).es:=by rw[h.es];exact z9q hf (λk hk=>by have:=hb3 k hk;omega) (by omega)
 have hx:ruE q (b.getD j 0)∈(rgL L).es:=by rw[h.es];exact zlk.2 (.inr (.inl ⟨_,hg,rfl⟩))
 have hov:=yoj hi hx (h.cntB (by omega) (kn:=9) (by decide) (by decide) hg);have hb0:=hb3 _ hg
 have hs:zpf (rgL L) L.length (evY F T b L.length j)=0:=by
  refine zzf (z2e ⟨by dsimp only;omega,by dsimp only;omega⟩ rfl ⟨rfl,rfl⟩ ?_ ?_ rfl) ?_
  ·simp only[List.mem_cons,List.not_mem_nil,or_false,forall_eq_or_imp,forall_eq];exact⟨zvg (.inr (.inr rfl)) (by omega),by decide,zvg (.inr (.inl rfl)) (by omega)⟩
  ·simp only[List.mem_cons,List.not_mem_nil,or_false,forall_eq_or_imp,forall_eq];omega
  rw[z19 (zxm (e:=evY F T b L.length j) rfl h.kn (show(9:Int)<=99999 by decide)),yet rfl];refine z84 (yfe λx hx=>?_) (by rw[h.es];simp[esT];omega) (λ_=>hov) (by show F<=_;omega) hF.2.2 (show(700:Int)<=1440 by decide) hF.2.1;rw[h.es]at hx
  rcases zlk.1 hx with⟨k,hk,rfl⟩|⟨k,hk,rfl⟩|⟨k,hk,rfl⟩
  ·exact λe=>absurd (zh4 (by omega) (by omega) e).1 (by decide)
  ·exact λe=>absurd (zh4 (by have:=hb3 k hk;omega) (by omega) e).1 (by decide)
  exact λe=>absurd (zh4 (by omega) (by omega) e).2 (by omega)
 obtain⟨a1,a2⟩:=z9p h.er hs;refine⟨a1,?_,by rw[a2];exact h.rs,by rw[a2];exact Int.le_refl 9,by simp[hl];omega,z88 h.bd ⟨show 3<=3 by decide,show 4<=4 by decide⟩⟩;rw[a2];show(rgL L).es++[foE F T b j]=_;rw[h.es];simp[esT,List.range_succ]
theorem TwR.rev{F T:Int}{b:List Nat}{k:Nat}{L:List Evt}(h:TwR q N b F T b.length k 12 L)(hk:k<b.length)(hnd:b.Nodup)(hb3:∀k∈b,k<N)(hbl:b.length<=3):TwR q N b F T b.length (k+1) 12 (L++[evX b L.length k]):=by
 have hf:=hc.few;have hl:=h.len;have hge:b.getD k 0=b[k]:=by rw[List.getD_eq_getElem?_getD,List.getElem?_eq_getElem hk];rfl
 have hg:b.getD k 0∈b:=hge▸List.getElem_mem hk;have hi:yqw (rgL L).es:=by rw[h.es];exact z9q hf (λk hk=>by have:=hb3 k hk;omega) (by omega)
 have hx:ruE q (b.getD k 0)∈(rgL L).es:=by rw[h.es];exact zlk.2 (.inr (.inl ⟨_,hg,rfl⟩))
 have hb0:=hb3 _ hg
 have hct:zw6 (rgL L) (ruE q (b.getD k 0)) 12=true:=by
  rw[yhz (h.ok (by omega)) hx rfl,h.rs,decide_eq_true (show(ruE q (b.getD k 0)).kn<=12 by show(8:Int)<=12;decide),Bool.true_and,Bool.not_eq_true'];unfold z8l;rw[List.any_eq_false];intro z hz;obtain⟨m,hm,rfl⟩:=List.mem_map.1 hz;simp only[decide_eq_true_eq];intro e;have hmb:=hb3 m (List.mem_of_mem_take hm);obtain⟨i,hi,e2⟩:=List.getElem_of_mem hm;rw[List.length_take]at hi;rw[List.getElem_take]at e2;have e3:=(zh4 (by omega) (by omega) e.1).2;rw[hge,<-e2]at e3;exact absurd e3 (List.pairwise_iff_getElem.1 hnd i k (by omega) hk (by omega))
 have hov:=yoj hi hx hct;obtain⟨p,hp,e1,e2⟩:=yh6 hi hx
 have hs:zpf (rgL L) L.length (evX b L.length k)=0:=by
  refine zzf (z2e ⟨by dsimp only;omega,by dsimp only;omega⟩ rfl ⟨rfl,rfl⟩ ?_ ?_ rfl) ?_
  ·simp only[List.mem_cons,List.not_mem_nil,or_false,forall_eq];exact zvg (.inr (.inl rfl)) (by omega)
  ·simp only[List.mem_cons,List.not_mem_nil,or_false,forall_eq];omega
  rw[z19 (zxm (e:=evX b L.length k) rfl h.kn (show(12:Int)<=99999 by decide))];show ybm (rgL L) (ruE q (b.getD k 0)).nm 12=0;unfold ybm;rw[if_neg (by rw[e1];omega),hov,e1]
  have:(rgL L).es.getD ((p:Nat):Int).toNat yxl=ruE q (b.getD k 0):=by
   rw[Int.toNat_natCast,<-e2];simp[List.getD,hp]
  rw[this]
  rfl
 obtain⟨a1,a2⟩:=z9p h.er hs;refine⟨a1,by rw[a2];exact h.es,?_,by rw[a2];exact Int.le_refl 12,by simp[hl];omega,z88 h.bd ⟨show 1<=3 by decide,show 1<=4 by decide⟩⟩;rw[a2];show(rgL L).rs++[⟨tnm 114 (b.getD k 0),12⟩]=_;rw[h.rs,List.take_succ_eq_append_getElem hk,List.map_append,hge]
 rfl
end
theorem TwR.offB{q:Nat->Tq}{N:Nat}{F T:Int}{b:List Nat}{j:Nat}{D:Int}{L:List Evt}(h:TwR q N b F T j b.length D L)(hL:L.length<=1000)(kn:Int)(hk:12<=kn){i:Nat}(hi:i∈b):zw6 (rgL L) (ruE q i) kn=false:=by
 have hx:ruE q i∈(rgL L).es:=by rw[h.es];exact zlk.2 (.inr (.inl ⟨i,hi,rfl⟩))
 rw[yhz (h.ok hL) hx rfl,h.rs,List.take_length]
 have:z8l (b.map λi=>(⟨tnm 114 i,12⟩:Rmv)) (ruE q i).nm kn=true:=by
  unfold z8l;rw[List.any_eq_true];exact⟨⟨tnm 114 i,12⟩,List.mem_map.2 ⟨i,hi,rfl⟩,decide_eq_true ⟨rfl,hk⟩⟩
 rw[this,Bool.not_true,Bool.and_false]
theorem TwR.offC{q:Nat->Tq}{N:Nat}{F T:Int}{b:List Nat}{j k:Nat}{D:Int}{L:List Evt}(h:TwR q N b F T j k D L)(hL:L.length<=1000)(hN:N<=3)(hb3:∀k∈b,k<N)(hj:j<=b.length)(hbl:b.length<=3){kn:Int}(hk:kn<9\/∀i∈b,zw6 (rgL L) (ruE q i) kn=false){i:Nat}(hi:i<j):zw6 (rgL L) (foE F T b i) kn=false:=by
 rcases hk with hk|hk
 ·exact ye6 hk
 have hg:b.getD i 0∈b:=by
  rw[List.getD_eq_getElem?_getD,List.getElem?_eq_getElem (by omega)];exact List.getElem_mem (by omega)
 have hin:yqw (rgL L).es:=by rw[h.es];exact z9q hN (λk hk=>by have:=hb3 k hk;omega) (by omega)
 refine yxk (h.ok hL) hin (y:=ruE q (b.getD i 0)) ?_ ?_ rfl (hk _ hg)
 ·rw[h.es];exact zlk.2 (.inr (.inr ⟨i,hi,rfl⟩))
 rw[h.es];exact zlk.2 (.inr (.inl ⟨_,hg,rfl⟩))
theorem z9u{α:Type}(p:α->Bool)(f:α->Int)(v:Int):∀(l:List α)(a:Int),(∀x∈l,p x=true->f x=v)->l.foldl (λo x=>if p x then f x else o) a=if l.any p then v else a
 |[],a,_=>rfl
 |x::l,a,h=>by
  rw[List.foldl_cons,z9u p f v l _ λy hy=>h y (by simp[hy])];cases hp:p x with
  |true=>
   have:=h x (by simp) hp;simp[hp,this]
  |false=>simp[hp]
theorem yvm{r:Rgs}{kn d:Int}{t:Slt}:t∈ypr r kn d↔yi2 r t.sr kn d=t.mi/\t.mi≠1440:=by
 unfold ypr ywh;simp only[List.mem_map,List.mem_filter,(zjj _).mem_iff,decide_eq_true_eq]
 constructor
 ·rintro⟨s,⟨_,h2⟩,rfl⟩;exact⟨rfl,h2⟩
 rintro⟨h1,h2⟩;refine⟨t.sr,⟨?_,by rw[h1];exact h2⟩,by cases t;simp only at h1;rw[h1]⟩
 by_cases hm:t.sr∈srK r.es
 ·exact hm
 rw[yfy hm]at h1;exact absurd h1.symm h2
theorem ytt:∀{a b:List Slt},(a.Pairwise λx y=>zal x.sr y.sr=true)->(b.Pairwise λx y=>zal x.sr y.sr=true)->(∀t,t∈a↔t∈b)->a=b
 |[],[],_,_,_=>rfl
 |[],y::b,_,_,h=>absurd ((h y).2 (by simp)) (by simp)
 |x::a,[],_,_,h=>absurd ((h x).1 (by simp)) (by simp)
 |x::a,y::b,ha,hb,h=>by
  rw[List.pairwise_cons]at ha hb
  have hxy:x=y:=by
   rcases List.mem_cons.1 ((h x).1 (by simp))with e|e
   ·exact e
   rcases List.mem_cons.1 ((h y).2 (by simp))with e'|e'
   ·exact e'.symm
   have k1:=hb.1 x e;have k2:=ha.1 y e';rw[zog _ _ k1]at k2;exact absurd k2 (by decide)
  subst hxy;congr 1;refine ytt ha.2 hb.2 λt=>?_
  have ht:=h t;rw[List.mem_cons,List.mem_cons]at ht
  have n1:t∈a->t≠x:=λhm e=>by
   subst e;have:=ha.1 t hm;rw[zk0]at this;exact absurd this (by decide)
  have n2:t∈b->t≠x:=λhm e=>by
   subst e;have:=hb.1 t hm;rw[zk0]at this;exact absurd this (by decide)
  exact⟨λhm=>(ht.1 (.inr hm)).resolve_left (n1 hm),λhm=>(ht.2 (.inr hm)).resolve_left (n2 hm)⟩
theorem TwR.slots{q:Nat->Tq}{N:Nat}(hc:TwC N q){F T:Int}{b:List Nat}{j k:Nat}{D:Int}{L:List Evt}(h:TwR q N b F T j k D L)(hL:L.length<=1000)(hb3:∀k∈b,k<N){kn d:Int}(bb:Bool)(h5:5<=kn)
  (hB:∀i∈b,zw6 (rgL L) (ruE q i) kn=bb)(hC:∀i,i<j->zw6 (rgL L) (foE F T b i) kn=false){R:Nat->Bool}(hR:∀i,i<N->(R i=true↔(q i).gr=true/\¬(bb=true/\i∈b)))
  {Z:List Slt}(hz:Z.Pairwise λx y=>zal x.sr y.sr=true)(hm:∀t,t∈Z↔∃i,i<N/\R i=true/\(q i).fr<=d/\d<=(q i).to/\t=⟨(q i).nm,(q i).mi⟩):ypr (rgL L) kn d=Z:=by
 refine ytt (ys9 _ _ _) hz λt=>?_
 rw[yvm,hm];have hA:∀i,i<N->zw6 (rgL L) (enE q i) kn=true:=λi hi=>h.cntA hc hL hb3 h5 hi
 generalize hp:ymi (rgL L) t.sr kn d=p
 have pA:∀i,i<N->(p (enE q i)=true↔(q i).nm=t.sr/\(q i).fr<=d/\d<=(q i).to):=λi hi=>by
  rw[<-hp];unfold ymi;rw[hA i hi];show(decide ((q i).nm=t.sr)&&decide ((q i).fr<=d)&&decide (d<=(q i).to)&&true)=true↔_;simp[and_assoc]
 have pB:∀i,i∈b->(p (ruE q i)=true↔bb=true/\(q i).nm=t.sr/\(q i).fr<=d/\d<=(q i).to):=λi hi=>by
  rw[<-hp];unfold ymi;rw[hB i hi];show(decide ((q i).nm=t.sr)&&decide ((q i).fr<=d)&&decide (d<=(q i).to)&&bb)=true↔_;cases bb<;>simp[and_assoc]
 have pC:∀i,i<j->p (foE F T b i)=false:=λi hi=>by
  rw[<-hp];unfold ymi;rw[hC i hi,Bool.and_false]
 have e1:∀v,(∀i,i<N->(q i).nm=t.sr->(q i).fr<=d->d<=(q i).to->mnT (q i)=v)->yi2 (rgL L) t.sr kn d=if(b.map (ruE q)).any p then 1440 else if((List.range N).map (enE q)).any p then v else 1440:=λv hv=>by
  unfold yi2;rw[hp,h.es,esT,List.foldl_append,List.foldl_append];rw[zyr p Ent.mi _ _ λx hx=>by obtain⟨i,hi,rfl⟩:=List.mem_map.1 hx;exact pC i (List.mem_range.1 hi)];rw[z9u p Ent.mi 1440 (b.map (ruE q)) _ λx hx _=>by obtain⟨i,hi,rfl⟩:=List.mem_map.1 hx;rfl]
  rw[z9u p Ent.mi v ((List.range N).map (enE q)) _ λx hx hxp=>by
   obtain⟨i,hi,rfl⟩:=List.mem_map.1 hx;have hi:=List.mem_range.1 hi;have:=(pA i hi).1 hxp
   exact hv i hi this.1 this.2.1 this.2.2]
 by_cases hex:∃i,i<N/\(q i).nm=t.sr/\(q i).fr<=d/\d<=(q i).to
 ·obtain⟨i,hi,a1,a2,a3⟩:=hex;have hun:∀i',i'<N->(q i').nm=t.sr->i'=i:=λi' hi' e=>hc.nd i' i hi' hi (e.trans a1.symm)
  have e1:=e1 (mnT (q i)) λi' hi' e _ _=>by rw[hun i' hi' e]
  have hAn:((List.range N).map (enE q)).any p=true:=List.any_eq_true.2 ⟨enE q i,List.mem_map.2 ⟨i,List.mem_range.2 hi,rfl⟩,(pA i hi).2 ⟨a1,a2,a3⟩⟩
  have hBn:(b.map (ruE q)).any p=decide (bb=true/\i∈b):=by
   by_cases hb:bb=true/\i∈b
   ·rw[decide_eq_true hb];exact List.any_eq_true.2 ⟨ruE q i,List.mem_map.2 ⟨i,hb.2,rfl⟩,(pB i hb.2).2 ⟨hb.1,a1,a2,a3⟩⟩
   rw[decide_eq_false hb,List.any_eq_false];intro x hx hxp;obtain⟨i',hi',rfl⟩:=List.mem_map.1 hx;have:=(pB i' hi').1 hxp;have e:=hun i' (hb3 i' hi') this.2.1;exact hb ⟨this.1,e▸hi'⟩
  rw[e1,hAn,hBn,if_pos rfl];have hRi:=hR i hi
  constructor
  ·rintro⟨k1,k2⟩
   by_cases hb:bb=true/\i∈b
   ·rw[decide_eq_true hb,if_pos rfl]at k1;exact absurd k1.symm k2
   rw[decide_eq_false hb,if_neg (by decide)]at k1;unfold mnT at k1;cases hg:(q i).gr with
   |false=>rw[hg,if_neg (by decide)]at k1;exact absurd k1.symm k2
   |true=>
    rw[hg,if_pos rfl]at k1;exact⟨i,hi,hRi.2 ⟨hg,hb⟩,a2,a3,by cases t;simp only at a1 k1;rw[a1,k1]⟩
  rintro⟨i',hi',k1,_,_,rfl⟩;obtain rfl:i'=i:=hun i' hi' rfl;have k2:=hRi.1 k1;rw[decide_eq_false k2.2,if_neg (by decide)];unfold mnT;rw[if_pos k2.1];have:=hc.mi _ hi k2.1;exact⟨rfl,by dsimp only;omega⟩
 have e1:=e1 1440 λi hi b1 b2 b3=>absurd ⟨i,hi,b1,b2,b3⟩ hex
 rw[e1];simp only[ite_self]
 constructor
 ·rintro⟨k1,k2⟩;exact absurd k1.symm k2
 rintro⟨i,hi,_,b2,b3,rfl⟩;exact absurd ⟨i,hi,rfl,b2,b3⟩ hex
theorem TwR.rests{q:Nat->Tq}{N:Nat}{F T:Int}{b:List Nat}{k:Nat}{D:Int}{L:List Evt}(h:TwR q N b F T b.length k D L)(hL:L.length<=1000)(hN:N<=3)(hb3:∀k∈b,k<N)(hbl:b.length<=3)(hnd:b.Nodup){i:Nat}(hi:i<b.length):0<=zph (rgL L).es (tnm 114 b[i])/\(yub (rgL L) (tnm 114 b[i])).length=1:=by
 have ho:=h.ok hL;have hin:yqw (rgL L).es:=by rw[h.es];exact z9q hN (λk hk=>by have:=hb3 k hk;omega) (by omega)
 have hbi:b[i]<3:=by have:=hb3 _ (List.getElem_mem hi);omega
 have hge:∀m(hm:m<b.length),b.getD m 0=b[m]:=λm hm=>by rw[List.getD_eq_getElem?_getD,List.getElem?_eq_getElem hm];rfl
 have r0:∀x∈(rgL L).es,x.bs=[]->ylj (rgL L) x (tnm 114 b[i])=false:=λx hx e=>by
  obtain⟨k,hk,rfl⟩:=List.getElem_of_mem hx;exact ysp ho hk e _
 have hmB:∀m∈b,ruE q m∈(rgL L).es:=λm hm=>by rw[h.es];exact zlk.2 (.inr (.inl ⟨m,hm,rfl⟩))
 have r1:∀m(hm:m<b.length),ylj (rgL L) (foE F T b m) (tnm 114 b[i])=decide (m=i):=λm hm=>by
  have hx:foE F T b m∈(rgL L).es:=by rw[h.es];exact zlk.2 (.inr (.inr ⟨m,hm,rfl⟩))
  obtain⟨k,j,hk,hj,e1,e2,e3⟩:=ymz ho hin hx (hmB b[m] (List.getElem_mem hm)) (by show tnm 114 (b.getD m 0)=_;rw[hge m hm];rfl);rw[<-e1,yso ho hk hj e3];have hj':j<(rgL L).es.length:=by omega
  rw[yti ho hj' (by rw[e2];rfl),e2]
  by_cases hmi:m=i
  ·subst hmi;simp[ruE]
  rw[decide_eq_false hmi];refine decide_eq_false λe=>?_
  have hbm:b[m]<3:=by have:=hb3 _ (List.getElem_mem hm);omega
  have e:=(zh4 hbm hbi e).2
  rcases Nat.lt_or_gt_of_ne hmi with hlt|hlt
  ·exact absurd e (List.pairwise_iff_getElem.1 hnd m i hm hi hlt)
  exact absurd e.symm (List.pairwise_iff_getElem.1 hnd i m hi hm hlt)
 constructor
 ·obtain⟨k,_,e,_⟩:=yh6 hin (hmB b[i] (List.getElem_mem hi));have:zph (rgL L).es (tnm 114 b[i])=(k:Nat):=e;omega
 unfold yub;rw[List.length_map]
 have:(rgL L).es.filter (λx=>ylj (rgL L) x (tnm 114 b[i]))=[foE F T b i]:=by
  rw[show(rgL L).es=((List.range N).map (enE q)++b.map (ruE q))++(List.range b.length).map (foE F T b)from h.es,List.filter_append]
  rw[List.filter_eq_nil_iff.2 λx hx=>by
   have hm:x∈(rgL L).es:=by rw[h.es];exact List.mem_append_left _ hx
   rw[r0 x hm ?_]
   ·decide
   rcases List.mem_append.1 hx with hx|hx
   ·obtain⟨i,_,rfl⟩:=List.mem_map.1 hx;rfl
   obtain⟨i,_,rfl⟩:=List.mem_map.1 hx;rfl]
  rw[List.nil_append,List.filter_map]
  have:(List.range b.length).filter ((λx=>ylj (rgL L) x (tnm 114 b[i]))∘foE F T b)=[i]:=by
   refine(List.filter_congr (q:=λm=>decide (m=i)) λm hm=>r1 m (List.mem_range.1 hm)).trans ?_;clear r1 hge hmB r0 h hbi;generalize b.length=n at hi hbl;have hn:n=0\/n=1\/n=2\/n=3:=by omega
   have hii:i=0\/i=1\/i=2:=by omega
   rcases hn with rfl|rfl|rfl|rfl<;>rcases hii with rfl|rfl|rfl<;>first|rfl|omega
  rw[this]
  rfl
 rw[this]
 rfl
def zwg(ls:List Lmt):List Lmt:=ls.map λl=>{l with mo:=max 0 (l.mo-1)}
theorem ym5{l:Lmt}(h:zgr l=0):zgr {l with mo:=max 0 (l.mo-1)}=0:=by
 rw[zhx]at h⊢;obtain⟨h1,h2,h3,h4,h5,h6,h7,h8,h9,h10⟩:=h;exact⟨h1,h2,h3,h4,h5,h6,h7,h8,h9,by show 0<=max 0 (l.mo-1)/\max 0 (l.mo-1)<=999999999;omega⟩
theorem ybw:∀(ls:List Lmt)(seen:List (List UInt8)),zv4 seen ls=0->zv4 seen (zwg ls)=0
 |[],_,_=>rfl
 |l::r,seen,h=>by
  unfold zv4 at h
  split at h
  ·rename_i h1
   have h2:z6k seen {l with mo:=max 0 (l.mo-1)}=0:=by
    unfold z6k at h1⊢;rw[zb2]at h1⊢;simp only[List.mem_cons,List.not_mem_nil,or_false,forall_eq_or_imp,forall_eq]at h1⊢;exact⟨ym5 h1.1,h1.2⟩
   show(if z6k seen {l with mo:=max 0 (l.mo-1)}=0 then zv4 (seen++[l.nm]) (zwg r)else _)=0;rw[if_pos h2];exact ybw r _ h
  rename_i h1;exact absurd h h1
theorem ywm{ls:List Lmt}(h:zj8 ls=0):zj8 (zwg ls)=0:=by
 unfold zj8 at h⊢
 split at h
 ·cases h
 rename_i hl;rw[if_neg (by rw[zwg,List.length_map];exact hl)];exact ybw ls _ h
def ytp(ls:List Lmt)(P:List Mvt):Prop:=∀w∈zd2 ls P,(((zd2 ls P).count w:Nat):Int)<=(ls.getD w.1.toNat default).mo
theorem ytp.add{ls:List Lmt}{P M:List Mvt}(h:ytp ls P)(hf:ztj ls P M=[]):ytp ls (P++M):=by
 intro w hw;rw[z26,List.count_append]at*
 by_cases hm:w∈zd2 ls M
 ·unfold ztj at hf;rw[List.filter_eq_nil_iff]at hf;have:=hf w hm;simp only[decide_eq_true_eq]at this;omega
 have:=h w ((List.mem_append.1 hw).resolve_right hm);rw[List.count_eq_zero_of_not_mem hm];exact this
theorem yhk(ls:List Lmt):∀(P:List Mvt)(l:List Wsh)(r:List Alr),ytp ls P->ytp ls (P++zuj l (ztn ls P l r))
 |P,[],r,h=>by simpa[zuj]using h
 |P,_::_,[],h=>by simpa[zuj,ztn]using h
 |P,w::l,x::r,h=>by
  unfold ztn
  by_cases hc:x.gr=true/\ztj ls P (zqv w x.mi)=[]
  ·rw[if_pos hc];have:=yhk ls (P++zqv w x.mi) l r (h.add hc.2);rw[List.append_assoc]at this;exact this
  rw[if_neg hc];exact yhk ls P l r h
theorem zxh(ls:List Lmt):∀(P:List Mvt)(l:List Wsh)(r:List Alr),r.length=l.length->(ztn ls P l r).length=l.length
 |_,[],_,_=>by simp[ztn]
 |_,_::_,[],h=>by simp at h
 |P,w::l,x::r,h=>by
  unfold ztn;split<;>simp[zxh ls _ l r (by simpa using h)]
theorem z0z(ls:List Lmt):∀(P:List Mvt)(l:List Wsh)(r:List Alr)(i:Nat)(h1:i<l.length)(h2:i<r.length)(h3:i<(ztn ls P l r).length),(ztn ls P l r)[i]=ysn l[i] none\/(r[i].gr=true/\(ztn ls P l r)[i]=ysn l[i] (some r[i].mi))
 |_,[],_,i,h,_,_=>absurd h (Nat.not_lt_zero i)
 |_,_::_,[],i,_,h,_=>absurd h (Nat.not_lt_zero i)
 |P,w::l,x::r,0,_,_,h3=>by
  unfold ztn
  by_cases hc:x.gr=true/\ztj ls P (zqv w x.mi)=[]
  ·right;simp only[if_pos hc];exact⟨hc.1,rfl⟩
  left;simp only[if_neg hc]
  rfl
 |P,w::l,x::r,i+1,h1,h2,h3=>by
  unfold ztn at h3⊢
  by_cases hc:x.gr=true/\ztj ls P (zqv w x.mi)=[]
  ·simp only[if_pos hc]at h3⊢;exact z0z ls _ l r i (by simpa using h1) (by simpa using h2) (by simpa using h3)
  simp only[if_neg hc]at h3⊢;exact z0z ls _ l r i (by simpa using h1) (by simpa using h2) (by simpa using h3)
theorem yp2(ls:List Lmt):∀(P:List Mvt)(l:List Wsh)(i:Nat)(h2:i<(z16 ls P l).length),(z16 ls P l)[i].gr=false->(z16 ls P l)[i].mi=0
 |_,[],i,h=>absurd h (Nat.not_lt_zero i)
 |P,w::r,0,_=>by
  simp only[z16,List.getElem_cons_zero];cases h:yra ls P w with
  |none=>exact λ_=>rfl
  |some m=>exact λhg=>by cases hg
 |P,w::r,i+1,h2=>by
  simp only[z16,List.getElem_cons_succ];exact yp2 ls _ r i (by simpa[z16]using h2)
theorem yri(ls:List Lmt)(l:List Wsh):ybe l (z16 ls [] l):=
 ⟨z5u ls [] l,λi h1 h2=>(yhb ls [] l i h2 h1).1,λi h1 h2=>(yhb ls [] l i h2 h1).2,λi h1=>yp2 ls [] l i h1⟩
theorem yrj(ls:List Lmt){l:List Wsh}{r:List Alr}(hf:ybe l r):ybe l (ztn ls [] l r):=by
 have hl:=hf.len;have hw:=zxh ls [] l r hl
 refine⟨hw,λi h1 h2=>?_,λi h1 h2 hg=>?_,λi h1 hg=>?_⟩
 ·rcases z0z ls [] l r i h2 (by omega) h1 with e|⟨_,e⟩<;>rw[e]<;>rfl
 ·rcases z0z ls [] l r i h2 (by omega) h1 with e|⟨hg',e⟩
  ·rw[e]at hg;cases hg
  rw[e];exact hf.gr i (by omega) h2 hg'
 rcases z0z ls [] l r i (by omega) (by omega) h1 with e|⟨_,e⟩
 ·rw[e];rfl
 rw[e]at hg;cases hg
theorem yeb(ls:List Lmt){l:List Wsh}{r:List Alr}(hf:ybe l r){i:Nat}(h1:i<l.length)(h2:i<r.length)(h3:i<(ztn ls [] l r).length):(ztn ls [] l r)[i]=r[i]\/((ztn ls [] l r)[i].gr=false/\r[i].gr=true/\(ztn ls [] l r)[i].nm=r[i].nm/\(ztn ls [] l r)[i]≠r[i]):=by
 have hn:=hf.nm i h2 h1
 rcases z0z ls [] l r i h1 h2 h3 with e|⟨hg,e⟩
 ·rw[e];cases hg:r[i].gr with
  |false=>
   left;have hz:=hf.no i h2 hg;show(⟨l[i].r.nm,0,false⟩:Alr)=_;generalize r[i]=x at*;cases x;simp only at hn hg hz;rw[hn,hg,hz]
  |true=>exact .inr ⟨rfl,rfl,hn.symm,λh=>by rw[<-h]at hg;cases hg⟩
 left;rw[e];show(⟨l[i].r.nm,r[i].mi,true⟩:Alr)=_;generalize r[i]=x at*;cases x;simp only at hn hg;rw[hn,hg]
def tqW(W:List Wsh)(r:List Alr)(i:Nat):Tq:=⟨(r.getD i ⟨[],0,false⟩).nm,((W[i]?).map λw=>w.r.fr).getD 0,((W[i]?).map λw=>w.r.to).getD 0,(r.getD i ⟨[],0,false⟩).mi,(r.getD i ⟨[],0,false⟩).gr⟩
theorem zzi{W:List Wsh}{r:List Alr}{i:Nat}(h1:i<W.length)(h2:i<r.length):tqW W r i=⟨r[i].nm,W[i].r.fr,W[i].r.to,r[i].mi,r[i].gr⟩:=by
 unfold tqW;simp[List.getD,h1,h2]
theorem yq9{q:Rqt}(h:zt3 q=0):zcd q.nm=true:=by
 unfold zt3 at h;rw[zb2]at h;have:=h (nmE q.nm) (by simp);unfold nmE at this;cases hb:zcd q.nm with
 |true=>rfl
 |false=>rw[hb]at this;simp at this
theorem yqb{W:List Wsh}(h:z8z W)(h3:W.length<=3){r:List Alr}(hf:ybe W r):TwC W.length (tqW W r):=by
 have hl:=hf.len
 refine⟨h3,λi hi=>?_,λi hi=>?_,λi hi hg=>?_,λi j hi hj e=>?_⟩
 ·rw[zzi hi (by omega)];show zcd r[i].nm=true;rw[hf.nm i (by omega) hi];exact yq9 (h.ok.ok _ (List.getElem_mem hi)).rc
 ·rw[zzi hi (by omega)];have hrc:=(h.ok.ok _ (List.getElem_mem hi)).rc;unfold zt3 at hrc;rw[zb2]at hrc;have hp:=zfl.1 (hrc (ziv W[i].r.fr W[i].r.to W[i].r.da) (by simp));show 0<=W[i].r.fr/\W[i].r.fr<=W[i].r.to/\W[i].r.to<=99999;omega
 ·rw[zzi hi (by omega)]at hg⊢;exact zre (h.ok.ok _ (List.getElem_mem hi)) (hf.gr i (by omega) hi hg)
 rw[zzi hi (by omega),zzi hj (by omega)]at e;have e:r[i].nm=r[j].nm:=e;rw[hf.nm i (by omega) hi,hf.nm j (by omega) hj]at e;have hnd:=h.ok.nd;unfold ylc at hnd
 rcases Nat.lt_trichotomy i j with hlt|heq|hlt
 ·have:=List.pairwise_iff_getElem.1 hnd i j (by rw[List.length_map];exact hi) (by rw[List.length_map];exact hj) hlt;rw[List.getElem_map,List.getElem_map]at this;exact absurd e this
 ·exact heq
 have:=List.pairwise_iff_getElem.1 hnd j i (by rw[List.length_map];exact hj) (by rw[List.length_map];exact hi) hlt;rw[List.getElem_map,List.getElem_map]at this;exact absurd e.symm this
theorem yn3{W:List Wsh}{r:List Alr}(hf:ybe W r){R:List Alr}(hR:R.length=W.length)(he:∀(i:Nat)(h1:i<R.length)(h2:i<r.length),R[i].gr=true->R[i]=r[i]){d:Int}(t:Slt):t∈slL W R d↔∃i,i<W.length/\(R.getD i ⟨[],0,false⟩).gr=true/\(tqW W r i).fr<=d/\d<=(tqW W r i).to/\t=⟨(tqW W r i).nm,(tqW W r i).mi⟩:=by
 have hl:=hf.len;rw[yfx]
 constructor
 ·rintro⟨i,h1,h2,hg,p1,p2,rfl⟩;have e:=he i h2 (by omega) hg;refine⟨i,h1,by simpa[List.getD,h2]using hg,?_⟩;rw[zzi h1 (by omega),e];exact⟨p1,p2,rfl⟩
 rintro⟨i,h1,hg,p⟩;have h2:i<R.length:=by omega
 have hg:R[i].gr=true:=by simpa[List.getD,h2]using hg
 have e:=he i h2 (by omega) hg;rw[zzi h1 (by omega)]at p;refine⟨i,h1,h2,hg,p.1,p.2.1,?_⟩;rw[e];exact p.2.2
section
variable{W:List Wsh}(h:z8z W)(h3:W.length <=3){r:List Alr}(hf:ybe W r){b:List Nat}(hb3:∀ k ∈ b,k < W.length)(hbl:b.length <=3){F T:Int}{j k:Nat}{D:Int}{L:List Evt}(ht:TwR (tqW W r) W.length b F T j k D L)(hj:j <=b.length)(hL:L.length <=1000)
include h h3 hf hb3 hbl ht hj hL
theorem ys3{kn:Int}(h5:5<=kn)(hB:∀i∈b,zw6 (rgL L) (ruE (tqW W r) i) kn=false){d:Int}{Z:List Slt}(hz:yuo (slL W r d) Z):ypr (rgL L) kn d=Z:=by
 have hc:=yqb h h3 hf;have hl:=hf.len;refine ht.slots hc hL hb3 false h5 hB (λi hi=>ht.offC hL h3 hb3 hj hbl (.inr hB) hi) (R:=λi=>(r.getD i ⟨[],0,false⟩).gr) (λi hi=>?_) hz.2 λt=>(hz.1 t).trans (yn3 hf hl (λ_ _ _ _=>rfl) t)
 exact⟨λe=>⟨e,λh=>by cases h.1⟩,λe=>e.1⟩
theorem yph(ls:List Lmt)(hb:∀(i:Nat)(h1:i<(ztn ls [] W r).length)(h2:i<r.length),i∈b↔(ztn ls [] W r)[i]≠r[i]){d:Int}{Z:List Slt}(hz:yuo (slL W (ztn ls [] W r) d) Z):ypr (rgL L) 8 d=Z:=by
 have hc:=yqb h h3 hf;have hl:=hf.len;have hw:=zxh ls [] W r hl;have hcs:=λ(i:Nat)(h1:i<W.length)=>yeb ls hf h1 (by omega) (by omega)
 refine ht.slots hc hL hb3 true (by decide) (λi hi=>ht.cntB hL (by decide) (by decide) hi) (λi hi=>ht.offC hL h3 hb3 hj hbl (.inl (by decide)) hi) (R:=λi=>((ztn ls [] W r).getD i ⟨[],0,false⟩).gr) (λi hi=>?_) hz.2 λt=>(hz.1 t).trans (yn3 hf hw (λi h1 h2 hg=>?_) t)
 ·have h1:i<(ztn ls [] W r).length:=by omega
  have h2:i<r.length:=by omega
  have e1:((ztn ls [] W r).getD i ⟨[],0,false⟩)=(ztn ls [] W r)[i]:=by simp[List.getD,h1]
  rw[zzi hi h2,e1];have hbi:=hb i h1 h2
  rcases hcs i hi with e|⟨p1,p2,_,p4⟩
  ·rw[hbi,e];simp
  rw[hbi,p1];simp[p4]
 rcases hcs i (by omega)with e|⟨p1,_⟩
 ·exact e
 rw[p1]at hg;cases hg
end
def twL(l:List Lmt):Bool:=decide (l.length<=3)&&((l.all znv&&decide (zlw l<=400))&&decide (zj8 l=0))
theorem yl7{l:List Lmt}{k:Nat}(h:k<l.length):(l.take (k+1)).flatMap Lmt.cells=(l.take k).flatMap Lmt.cells++l[k].cells:=by
 rw[List.take_add_one,List.getElem?_eq_getElem h,List.flatMap_append];simp
section
variable{E:Oracle}(g:Good E)
include g
theorem yar(l:List Lmt)(hl:l.length<=1048576):In E 0 zg6 [LLm l] [] λv m'=>v=.tup [.ref ⟨0,4,0⟩ 0 l.length l.length,B (twL l)]/\Evl.look m' ⟨0,4,0⟩=some (.row false zai 11 l.length (l.flatMap Lmt.cells)):=by
 refine In.enter (f:=zg6) g.lim rfl rfl ?_
 repeat'((conv=>whnf);first|refine Yz ?_)
 refine zab.to (zab.up g (λk=>[(0,LLm l),(4,.ref ⟨0,4,0⟩ 0 k k),(7,LLm l),(8,I l.length),(9,I k)])
  (λk=>[(⟨0,2,0⟩,.row false zai 11 0 []),(⟨0,4,0⟩,.row false zai 11 k ((l.take k).flatMap Lmt.cells))]) l.length (λk hk ih=>?_) 0 (Nat.zero_le _)) rfl rfl
 by_cases hlt:k<l.length
 ·have ih:=ih hlt;rw[yl7 hlt]at ih
  repeat'((conv=>whnf);first|refine Yz ?_|refine za2.rec Lmt.cells_length k rfl hlt ?_|(refine zab.to ih rfl rfl))
 obtain rfl:k=l.length:=by omega
 clear ih;rw[List.take_length];unfold twL
 by_cases h:l.length<=3
 ·have h1:=yam g l h;have h2:=yal g l (by omega);rw[decide_eq_true h,Bool.true_and];cases hs:(l.all znv&&decide (zlw l<=400))
  all_goals
   rw[hs]at h1;by_cases hc:zj8 l=0
  all_goals
   first|rw[decide_eq_true hc]|rw[decide_eq_false hc]
   repeat'((conv=>whnf);first|refine Yz ?_|(apply zaf.of;assumption)|refine Cmp.ff hc ?_|refine Cmp.tt hc ?_|exact⟨rfl,rfl⟩)
 rw[decide_eq_false h]
 repeat'((conv=>whnf);first|refine Yz ?_|(refine Cmp.mk (λh=>?_) (λh=>?_))|(refine Rem.any (by omega) (λr hr he=>?_))|(refine Br.mk (λh=>?_) (λh=>?_))|exact⟨rfl,rfl⟩)
end
def yxg(l:List Rqt):Bool:=decide (l.length<=4)&&(l.all zx1&&(decide (z3v l=0)&&l.all λq=>decide (q.li=[])&&decide (q.to-q.fr<8)))
theorem yuu{l:List Rqt}(h:yxg l=true):yem l:=by
 unfold yxg at h;simp only[Bool.and_eq_true,decide_eq_true_eq,List.all_eq_true]at h;exact⟨h.1,h.2.2.1,λq hq=>(h.2.2.2 q hq).1,λq hq=>(h.2.2.2 q hq).2⟩
section
variable{E:Oracle}(g:Good E)
include g
theorem ygt(q:Rqt)(hm:0<=q.mi/\q.mi<=1439):Fc E zi5 [Rqv q] (Wsv (yml q)):=by
 refine g.fn rfl rfl ?_
 repeat'((conv=>whnf);first|refine Yz ?_|refine Ret.mk ?_|fail)
 have e1:(if q.mi-20>0 then q.mi-20 else 0)=max 0 (q.mi-20):=by split<;>omega
 have e2:(if q.mi+20<1439 then q.mi+20 else 1439)=min 1439 (q.mi+20):=by split<;>omega
 rw[e1,e2]
 rfl
theorem ydn(l:List Rqt):Fc E znj [LQ l] (B (yxg l)):=by
 refine g.fn rfl rfl ?_;unfold yxg
 by_cases h4:l.length<=4
 ·rw[decide_eq_true h4,Bool.true_and];have h1:=yv1 g l 4 (by omega);rw[decide_eq_true (.inl h4),Bool.true_and]at h1;have h2:=z48 g l (by omega);cases hb:l.all zx1 with
  | false=>
   rw[hb]at h1
   repeat'((conv=>whnf);first
   | refine Yz ?_
    | (apply zaf.of;assumption)
    | (refine zaf.of h1 ?_)
    | (refine Ret.mk rfl)
    | fail)
  | true=>
   rw[hb]at h1;rw[Bool.true_and]
   by_cases hz:z3v l=0
   ·rw[decide_eq_true hz,Bool.true_and];rw[hz]at h2;have hok:=(zw5 hz).2.2
    repeat'((conv=>whnf);first|refine Yz ?_|(apply zaf.of;assumption)|refine zaf.of h1 ?_|fail)
    refine zab.to (zab.upP g (λk=>[(18,LQ l),(19,I l.length),(20,I k)]) (λ_=>[]) (λk=>∀i(h:i<l.length),i<k->(decide (l[i].li=[])&&decide (l[i].to-l[i].fr<8))=true) l.length (λk hk hp ih=>?_) 0 (Nat.zero_le _) (λi _ hi=>absurd hi (Nat.not_lt_zero _))) rfl rfl
    by_cases hlt:k<l.length
    ·have hpz:=zfl.1 (zmy (hok _ (List.getElem_mem hlt))).2.2.1
     by_cases e1:l[k].li=[]
     ·by_cases e2:l[k].to-l[k].fr<8
      ·have ih:=ih hlt λi h hi=>by
        by_cases e:i=k
        ·subst e;rw[decide_eq_true e1,decide_eq_true e2];rfl
        exact hp i h (by omega)
       repeat'((conv=>whnf);first|refine Yz ?_|refine za2.rec Rqt.cells_length k rfl hlt ?_|refine Cmp.ff (λh=>h e1) ?_|refine zab.to ih rfl rfl|fail)
      have hno:(l.all λq=>decide (q.li=[])&&decide (q.to-q.fr<8))=false:=by
       rw[List.all_eq_false];exact⟨_,List.getElem_mem hlt,by rw[decide_eq_false e2,Bool.and_false];decide⟩
      rw[hno]
      repeat'((conv=>whnf);first|refine Yz ?_|refine za2.rec Rqt.cells_length k rfl hlt ?_|refine Cmp.ff (λh=>h e1) ?_|refine Ret.mk rfl|fail)
     have hno:(l.all λq=>decide (q.li=[])&&decide (q.to-q.fr<8))=false:=by
      rw[List.all_eq_false];exact⟨_,List.getElem_mem hlt,by rw[decide_eq_false e1,Bool.false_and];decide⟩
     rw[hno]
     repeat'((conv=>whnf);first|refine Yz ?_|refine za2.rec Rqt.cells_length k rfl hlt ?_|refine Cmp.tt e1 ?_|refine Ret.mk rfl|fail)
    obtain rfl:k=l.length:=by omega
    have hyes:(l.all λq=>decide (q.li=[])&&decide (q.to-q.fr<8))=true:=by
     rw[List.all_eq_true];intro q hq;obtain⟨i,hi,rfl⟩:=List.getElem_of_mem hq;exact hp i hi hi
    rw[hyes]
    repeat'((conv=>whnf);first|refine Yz ?_|refine Ret.mk rfl|fail)
   rw[decide_eq_false hz,Bool.false_and]
   repeat'((conv=>whnf);first|refine Yz ?_|(apply zaf.of;assumption)|refine zaf.of h1 ?_|refine Cmp.tt hz ?_|refine Ret.mk rfl|fail)
 rw[decide_eq_false h4,Bool.false_and]
 repeat'((conv=>whnf);first|refine Yz ?_|refine Ret.mk rfl|fail)
omit g in
theorem yon:∀(rs:List Alr),(rs.flatMap Alr.cells).all z09=true
 |[]=>rfl
 |r::q=>by
  rw[List.flatMap_cons,List.all_append,yon q]
  rfl
theorem zrr.serve(ls:List Lmt)(hls:ls.length<=3)(hc:zj8 ls=0)(l:List Wsh)(h:z8z l){K:V->Prop}(hk:K (.tup [LRs (z16 ls [] l),I 0])):zrr E zd3 [LLm ls,LWi l] K:=by
 obtain⟨v,m',h1,rs,rfl,rfl,h3,h4⟩:=(yro g ls hls hc l h).got
 refine⟨⟨_,m',_,h1,?_,?_,hk⟩⟩
 ·simp only[z7n,List.all_cons,List.all_nil,z07,h4,yon,z09,Bool.and_true]
 simp[thaw,Go.Evl.freezeL,Go.Evl.freeze,h4,asV,h3]
theorem z6w(l:List Lmt)(hl:l.length<=1048576):Fc E zg6 [LLm l] (.tup [LLm l,B (twL l)]):=by
 obtain⟨v,m',h1,rfl,h2⟩:=(yar g l hl).got;exact⟨_,m',h1,by simp[thaw,Go.Evl.freezeL,Go.Evl.freeze,h2,asV]⟩
end
abbrev Alv(x:Alr):V:=.d (.agg x.cells)
section
variable{E:Oracle}(g:Good E)
include g
theorem zrr.withdraw{ls:List Lmt}(hls:ls.length<=3)(hc:zj8 ls=0){l:List Wsh}(h:z8z l){rs:List Alr}(hf:ybe l rs){K:V->Prop}(hk:K (.tup [LRs (ztn ls [] l rs),I 0])):zrr E zeb [LLm ls,LWi l,LRs rs] K:=by
 obtain⟨v,m',h1,out,rfl,rfl,h3,h4⟩:=(yfq g ls hls hc l h rs hf).got
 refine⟨⟨_,m',_,h1,?_,?_,hk⟩⟩
 ·simp only[z7n,List.all_cons,List.all_nil,z07,h4,yon,z09,Bool.and_true]
 simp[thaw,Go.Evl.freezeL,Go.Evl.freeze,h4,asV,h3]
theorem zrr.check{ls:List Lmt}(hls:ls.length<=3)(hc:zj8 ls=0){l:List Wsh}(h:z8z l){rs:List Alr}(hf:ybe l rs)(hno:ytp ls (zuj l rs)){K:V->Prop}(hk:K (I 0)):zrr E zcf [LLm ls,LWi l,LRs rs] K:=by
 obtain⟨v,m',h1,rfl⟩:=(zyv g ls hls hc l h rs hf hno).got;exact⟨⟨_,m',_,h1,rfl,rfl,hk⟩⟩
theorem yap(k:Nat)(hk:k<3):Fc E zhd [I k] (S [UInt8.ofNat (48+k)]):=by
 have h1:=yt7 g 1 k (by decide) ⟨by omega,by show(k:Int)<100;omega⟩
 have e:zlg (1+1) (k:Int).toNat=[UInt8.ofNat (48+k)]:=by
  have:k=0\/k=1\/k=2:=by omega
  rcases this with rfl|rfl|rfl<;>rfl
 rw[e]at h1;refine g.fn rfl rfl ?_
 repeat'((conv=>whnf);first|refine Yz ?_|(apply zaf.of;assumption)|refine Ret.mk rfl|fail)
theorem yas(x:Alr):Fc E zmj [Alv x] (I (if x.gr then x.mi else 1440)):=by
 refine g.fn rfl rfl ?_;cases hg:x.gr
 all_goals
  repeat'((conv=>whnf);first|refine Yz ?_|rw[hg]|refine Ret.mk rfl|fail)
theorem z5o(hx:ext n_slices_Sort_Lstring_string=some sortXS)(L:List Evt)(hl:L.length<=1000)(hb:∀e∈L,e.ns.length<=3/\e.vs.length<=4)(er:erL L=0)(kn:Int)(hk:0<=kn/\kn<=99999)(W:List Wsh)(hW:W.length<=3)(rs:List Alr)(hrl:rs.length=W.length)(F T:Int)(h0:0<=F/\F<=99999/\0<=T/\T<=99999)
  (hnd:∀d,(slL W rs d).Pairwise λa b=>a.sr≠b.sr)(hs:∀d Z,yuo (slL W rs d) Z->ypr (rgL L) kn d=Z):Fc E zdz [LE L,I kn,LWi W,LRs rs,I F,I T] (B true):=by
 refine g.fn rfl rfl ?_
 repeat'((conv=>whnf);first|refine Yz ?_|fail)
 refine zab.to (zab.up g (λi=>[(0,LE L),(1,I kn),(2,LWi W),(3,LRs rs),(5,I T),(13,I (F+i))]) (λ_=>[]) (T+1-F).toNat (λi hi ih=>?_) 0 (Nat.zero_le _)) (by simp) rfl
 by_cases hlt:i<(T+1-F).toNat
 ·have ih:=ih hlt;have e1:F+(i+1:Nat)=F+i+1:=by omega
  rw[e1]at ih;have hd:0<=F+i/\F+i<=99999:=by omega
  have ha:=yyg g hx L hl (λe he=>by have:=hb e he;omega) kn (F+i)
  have hz:erS L kn (F+i)=0:=by
   unfold erS;rw[er];unfold rng;rw[if_neg (by omega),if_neg (by omega)]
   rfl
  rw[hz,if_pos rfl]at ha;obtain⟨Z,z1,z2,z3⟩:=ydo g W rs hW hrl (F+i) (hnd _);rw[hs _ Z z1]at ha;have hsm:=ysh g Z (by omega)
  repeat'((conv=>whnf);first|refine Yz ?_|(apply zaf.of;assumption)|fail)
  refine zab.to (zab.by (σ:=List Slt) g (λu=>u.length<=Z.length/\u=Z.take u.length)
   (λu=>[(0,LE L),(1,I kn),(2,LWi W),(3,LRs rs),(5,I T),(13,I (F+i)),(15,I 0),(16,.ref ⟨0,16,0⟩ 0 u.length u.length),(32,LS2 Z),(33,I Z.length),(34,I u.length)])
   (λu=>[(⟨0,16,0⟩,.row false zap 2 u.length (u.flatMap Slt.cells))])
   (λu=>Z.length-u.length) ?_ [] ⟨Nat.zero_le _,rfl⟩) rfl rfl
  rintro u⟨h1,h2⟩ihu;have hmu:(u.flatMap Slt.cells).length=u.length*2:=zae Slt.cells 2 yj4 u
  by_cases hltu:u.length<Z.length
  ·have ihu:=ihu (u++[Z[u.length]]) ⟨by rw[List.length_append,List.length_singleton];omega,by
    rw[List.length_append,List.length_singleton,List.take_succ_eq_append_getElem hltu,<-h2]⟩ (by rw[List.length_append,List.length_singleton];omega)
   simp only[List.length_append,List.length_cons,List.length_nil,List.flatMap_append,List.flatMap_cons,List.flatMap_nil]at ihu
   repeat'((conv=>whnf);first|refine Yz ?_|refine za2.rec yj4 u.length rfl hltu ?_|refine zem.mk ⟨rfl,rfl,rfl,rfl,rfl,rfl,by dsimp only;omega,by first|omega|(dsimp only;omega)⟩ ?_|refine zab.to ihu rfl rfl|fail)
  have e:u=Z:=by rw[h2,List.take_of_length_le (by omega)]
  subst e;clear ihu
  repeat'((conv=>whnf);first|refine Yz ?_|rw[if_pos (⟨rfl,rfl⟩:_/\_)]|(apply zaf.of;assumption)|refine zab.to ih rfl rfl|fail)
 have hn:T<F+i:=by omega
 clear ih
 repeat'((conv=>whnf);first|refine Yz ?_|refine Ret.mk rfl|fail)
end
end Go.Proofs.YtkflcbhclegghaaGreatDoor.Co
