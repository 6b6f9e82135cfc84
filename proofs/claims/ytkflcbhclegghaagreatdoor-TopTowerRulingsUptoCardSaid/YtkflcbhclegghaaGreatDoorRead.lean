
/-
 How an input that a row's reading takes stands for the evaluator's data; the state at a call's beginning; what a law's card asks of its function's end.
-/
import Derived.Shelf.Vars
import Derived.Test.YtkflcbhclegghaaGreatDoorEvExt
import Derived.Test.YtkflcbhclegghaaGreatDoorEvE
import Derived.Carry
import Derived.Deep.Slices
import Derived.ChangeArms
import Derived.OpenShut
import Derived.DataReads
import Derived.Lib.LaidTab
import Derived.Test.YtkflcbhclegghaaGreatDoorRows
namespace Go.Evl
open Go.RowKit Go.ChangeShapes Go.WideShapes Go.Deep
open Go.Proofs.YtkflcbhclegghaaGreatDoor.Rows (uptoBulk uptoBulkAll)
mutual
def yps(B:Nat):D->Prop
 |.str s=>s.length<=B
 |.list n cs=>n<=B/\zl7 B cs
 |.agg cs=>zl7 B cs
 |_=>True
def zl7(B:Nat):List D->Prop
 |[]=>True
 |d::r=>yps B d/\zl7 B r
end
theorem zoe{B:Nat}:∀{a b:List D},zl7 B (a++b)↔zl7 B a/\zl7 B b
 |[],b=>by simp[zl7]
 |x::r,b=>by simp[zl7,zoe (a:=r),and_assoc]
theorem z2d{H:Type}:∀(ds:List (DataW H))(d:DataW H),d∈ds->uptoBulk d<=uptoBulkAll ds
 |[],d,h=>by simp at h
 |x::r,d,h=>by
  simp only[uptoBulkAll]
  rcases List.mem_cons.1 h with rfl|h
  ·omega
  have:=z2d r d h;omega
theorem yq5{H:Type}(d:DataW H):1<=uptoBulk d:=by
 cases d with
 |lit l=>cases l<;>simp[uptoBulk]
 |_=>simp[uptoBulk]
theorem z3d{H:Type}:∀(ds:List (DataW H)),ds.length<=uptoBulkAll ds
 |[]=>by simp[uptoBulkAll]
 |x::r=>by
  have:=z3d r;have:=yq5 x;simp only[uptoBulkAll,List.length_cons];omega
def zs1(p:TypeId->List D->Prop):List TypeId->List D->Prop
 |[],ds=>ds=[]
 |t::ts,ds=>∃a b,ds=a++b/\p t a/\zs1 p ts b
def fit(P:Program):Nat->TypeId->List D->Prop
 |0,_,_=>False
 |n+1,t,ds=>
  match P.underlying t with
  |some .bool=>∃b,ds=[.bool b]
  |some (.int k)=>∃i,ds=[.int k i]/\(Lit.int k i).wf=true
  |some .string=>∃s,ds=[.str s]/\s.length<=maxLen
  |some (.slice e)=>∃m cs,ds=[.list m cs]/\m<=maxLen/\zs1 (fit P n) (List.replicate m e) cs
  |some (.struct fs)=>zs1 (fit P n) (fs.toList.map (·.type)) ds
  |some (.array m e)=>zs1 (fit P n) (List.replicate m e) ds
  |_=>False
def yd9(P:Program):Nat->List Field->Option Nat
 |o,[]=>some o
 |o,f::r=>if f.offset=o then yd9 P (o+P.cellsOf f.type) r else none
def okT(P:Program):Nat->TypeId->Bool
 |0,_=>false
 |n+1,t=>
  match P.underlying t with
  |some .bool=>true
  |some (.int _)=>true
  |some .string=>true
  |some (.slice e)=>decide (0<P.cellsOf e)&&okT P n e
  |some (.struct fs)=>decide (yd9 P 0 fs.toList=some (P.cellsOf t))&&fs.toList.all λf=>okT P n f.type
  |some (.array m e)=>decide (P.cellsOf t=m*P.cellsOf e)&&okT P n e
  |_=>false
section
variable{H:Type}{enc:TypeId × Value ->H}{P:Program}{w:World}{base:Nat}{sp:Nat ->Bool}{held:Bool}{Im:Nat ->Nat ->Prop}{B:Nat}
theorem CR.of_cells(hIm:∀b j v,w.cell? ⟨b,j,none⟩=some v->Im b j)(b:Nat):∀(ds:List D)(o:Nat)(vs:List Value),DRs w Im ds vs->(∀i v,vs[i]?=some v->w.cell? ⟨b,o+i,none⟩=some v)->CR w Im b o ds
 |[],_,_,_,_=>by simp only[CR]
 |d::r,o,_,h,hc=>by
  obtain⟨x,ys,rfl,h1,h2,h3⟩:=h;have h0:=hc 0 x rfl;rw[Nat.add_zero]at h0;simp only[CR]
  exact⟨hIm _ _ _ h0,⟨x,h0,h1,h2⟩,CR.of_cells hIm b r (o+1) ys h3 λi v hv=>by
   have:=hc (i+1) v (by simpa using hv)
   rw[show o+1+i=o+(i+1)by omega];exact this⟩
theorem z5a{n g:Nat}(hI:∀t cs x,okT P g t=true->DataW.trod enc P w base sp held n t cs=some x->∃ds,DRs w Im ds cs/\fit P g t ds/\(uptoBulk x.1<=B->zl7 B ds))(c:Prop)(cs:List Value):
  ∀(fs:List Field)(o:Nat),yd9 P o fs=some cs.length->(∀f∈fs,okT P g f.type=true)->(∀f∈fs,∃x,DataW.trod enc P w base sp held n f.type ((cs.drop f.offset).take (P.cellsOf f.type))=some x/\(c->uptoBulk x.1<=B))->o<=cs.length->
   ∃ds,DRs w Im ds (cs.drop o)/\zs1 (fit P g) (fs.map (·.type)) ds/\(c->zl7 B ds)
 |[],o,h,_,_,_=>by
  simp only[yd9,Option.some.injEq]at h;subst h;exact⟨[],by simp[DRs],rfl,λ_=>trivial⟩
 |f::r,o,h,hok,hr,ho=>by
  simp only[yd9]at h
  split at h
  ·rename_i e
   have hle:∀(fs:List Field)(o m:Nat),yd9 P o fs=some m->o<=m:=by
    intro fs;induction fs with
    |nil=>intro o m h;simp only[yd9,Option.some.injEq]at h;omega
    |cons f r ih=>
     intro o m h;simp only[yd9]at h
     split at h
     ·have:=ih _ _ h;omega
     cases h
   obtain⟨x,hx,hxb⟩:=hr f (by simp);obtain⟨a,ha1,ha2,ha3⟩:=hI _ _ _ (hok f (by simp)) hx;obtain⟨b,hb1,hb2,hb3⟩:=z5a hI c cs r (o+P.cellsOf f.type) h (λf hf=>hok f (by simp[hf])) (λf hf=>hr f (by simp[hf])) (hle _ _ _ h);refine⟨a++b,?_,⟨a,b,rfl,ha2,hb2⟩,λhc=>zoe.2 ⟨ha3 (hxb hc),hb3 hc⟩⟩
   have hs:cs.drop o=(cs.drop f.offset).take (P.cellsOf f.type)++cs.drop (o+P.cellsOf f.type):=by
    rw[e,<-List.drop_drop,List.take_append_drop]
   rw[hs];exact DRs.append _ _ _ _ ha1 hb1
  cases h
theorem z8j{n g:Nat}{e:TypeId}(hI:∀t cs x,okT P g t=true->DataW.trod enc P w base sp held n t cs=some x->∃ds,DRs w Im ds cs/\fit P g t ds/\(uptoBulk x.1<=B->zl7 B ds))(c:Prop)(hok:okT P g e=true)(cs:List Value)(k:Nat):
  ∀(m o:Nat),cs.length=o*k+m*k->(∀i,i<m->∃x,DataW.trod enc P w base sp held n e ((cs.drop ((o+i)*k)).take k)=some x/\(c->uptoBulk x.1<=B))->∃ds,DRs w Im ds (cs.drop (o*k))/\zs1 (fit P g) (List.replicate m e) ds/\(c->zl7 B ds)
 |0,o,h,_=>⟨[],by rw[List.drop_eq_nil_of_le (by omega)];simp[DRs],rfl,λ_=>trivial⟩
 |m+1,o,h,hr=>by
  obtain⟨x,hx,hxb⟩:=hr 0 (by omega);rw[Nat.add_zero]at hx;obtain⟨a,ha1,ha2,ha3⟩:=hI _ _ _ hok hx
  obtain⟨b,hb1,hb2,hb3⟩:=z8j hI c hok cs k m (o+1) (by rw[h,Nat.succ_mul,Nat.succ_mul];omega) (λi hi=>by
   have:=hr (i+1) (by omega)
   rwa[show o+1+i=o+(i+1)by omega])
  refine⟨a++b,?_,⟨a,b,rfl,ha2,hb2⟩,λhc=>zoe.2 ⟨ha3 (hxb hc),hb3 hc⟩⟩
  have hs:cs.drop (o*k)=(cs.drop (o*k)).take k++cs.drop ((o+1)*k):=by
   rw[Nat.succ_mul,<-List.drop_drop,List.take_append_drop]
  rw[hs];exact DRs.append _ _ _ _ ha1 hb1
theorem z8k{n g:Nat}{e:TypeId}(hI:∀t cs x,okT P g t=true->DataW.trod enc P w base sp held n t cs=some x->∃ds,DRs w Im ds cs/\fit P g t ds/\(uptoBulk x.1<=B->zl7 B ds))(c:Prop)(hok:okT P g e=true)(a:Addr)(k:Nat):
  ∀(m o:Nat),(∀i,i<m->∃cs x,w.cells? base (a.add ((o+i)*k)) k=some cs/\DataW.trod enc P w base sp held n e cs=some x/\(c->uptoBulk x.1<=B))->
   ∃vs ds,DRs w Im ds vs/\zs1 (fit P g) (List.replicate m e) ds/\(c->zl7 B ds)/\vs.length=m*k/\∀i v,vs[i]?=some v->w.cell? (a.add (o*k+i))=some v
 |0,o,_=>⟨[],[],rfl,rfl,λ_=>trivial,by simp,λi v h=>by simp at h⟩
 |m+1,o,hr=>by
  obtain⟨cs,x,hc,hx,hxb⟩:=hr 0 (by omega);rw[Nat.add_zero]at hc;obtain⟨hb0,hlen,hat⟩:=World.cells?_some hc;obtain⟨d,hd1,hd2,hd3⟩:=hI _ _ _ hok hx
  obtain⟨vs,ds,h1,h2,hsm,h3,h4⟩:=z8k hI c hok a k m (o+1) (λi hi=>by
   have:=hr (i+1) (by omega)
   rwa[show o+1+i=o+(i+1)by omega])
  refine⟨cs++vs,d++ds,DRs.append _ _ _ _ hd1 h1,⟨d,ds,rfl,hd2,h2⟩,λhc=>zoe.2 ⟨hd3 (hxb hc),hsm hc⟩,by rw[List.length_append,hlen,h3,Nat.succ_mul];omega,λi v hv=>?_⟩;rw[List.getElem?_append]at hv
  split at hv
  ·rename_i hi;have:=hat i (by omega);rw[<-Go.Deep.add_add,this];exact hv
  rename_i hi;have:=h4 _ _ hv;rw[Nat.succ_mul]at this;rw[show o*k+i=o*k+k+(i-cs.length)by omega];exact this
theorem yoy(hIm:∀b j v,w.cell? ⟨b,j,none⟩=some v->Im b j):∀(g n:Nat)(t:TypeId)(cs:List Value)(x:DataW H×List MemPlace),okT P g t=true->DataW.trod enc P w base sp held n t cs=some x->∃ds,DRs w Im ds cs/\fit P g t ds/\(uptoBulk x.1<=B->zl7 B ds)
 |0,_,_,_,_,h,_=>by simp[okT]at h
 |g+1,n,t,cs,x,hok,h=>by
  have hI:∀n t cs x,okT P g t=true->DataW.trod enc P w base sp held n t cs=some x->∃ds,DRs w Im ds cs/\fit P g t ds/\(uptoBulk x.1<=B->zl7 B ds):=λn t cs x=>yoy hIm g n t cs x
  simp only[okT]at hok;simp only[fit];cases n with
  |zero=>simp[DataW.trod]at h
  |succ n=>
  split at hok
  ·rename_i ht;simp only[DataW.trod,ht]at h;split at h<;>simp_all;rename_i b;refine⟨[.bool b],⟨_,_,rfl,rfl,rfl,rfl⟩,?_,λ_=>⟨trivial,trivial⟩⟩;cases b<;>simp
  ·rename_i k ht;simp only[DataW.trod,ht]at h;split at h<;>simp_all;obtain⟨⟨rfl,hwf⟩,_⟩:=h;exact⟨[.int _ _],⟨_,_,rfl,rfl,rfl,rfl⟩,⟨_,rfl,hwf⟩,λ_=>⟨trivial,trivial⟩⟩
  ·rename_i ht;simp only[DataW.trod,ht]at h;split at h<;>simp_all;rename_i s
   refine⟨[.str s.data.toList],⟨_,_,rfl,rfl,?_,rfl⟩,⟨_,rfl,?_⟩,λhb=>?_⟩
   ·simp[DR]
   ·simpa using h.1
   have h2:=h.2;subst h2;simp only[uptoBulk]at hb;exact⟨by simp only[yps];omega,trivial⟩
  ·rename_i e ht;simp only[Bool.and_eq_true,decide_eq_true_eq]at hok
   rcases open_slice ht h with⟨rfl,_⟩|⟨a,len,cap,m,n',Dd,Pl,rfl,hb,hl,hm,hmm,hxe,hi⟩
   ·exact⟨[.list 0 []],⟨_,_,rfl,rfl,⟨none,0,rfl,Nat.le_refl _,.inl ⟨rfl,rfl⟩⟩,rfl⟩,⟨0,[],rfl,by simp,rfl⟩,λ_=>⟨⟨Nat.zero_le _,trivial⟩,trivial⟩⟩
   have hlm:len<=m:=by rw[hmm];split<;>omega
   have hbl:len<=uptoBulk x.1/\∀i,i<len->uptoBulk (Dd i)<=uptoBulk x.1:=by
    rw[hxe];simp only[uptoBulk];have k1:=z3d ((List.range len).map Dd);rw[List.length_map,List.length_range]at k1;refine⟨by omega,λi hi=>?_⟩;have k2:=z2d ((List.range len).map Dd) (Dd i) (List.mem_map.2 ⟨i,List.mem_range.2 hi,rfl⟩);omega
   obtain⟨vs,ds,h1,h2,hsm,h3,h4⟩:=z8k (w:=w) (Im:=Im) (hI n') (uptoBulk x.1<=B) hok.2 a (P.cellsOf e) len 0 (λi hi'=>by
    obtain⟨cs',k1,k2⟩:=hi i (by omega)
    exact⟨cs',_,by rw[Nat.zero_add];exact k1,k2,λhc=>Nat.le_trans (hbl.2 i hi') hc⟩)
   refine⟨[.list len ds],⟨_,_,rfl,rfl,⟨some a,cap,rfl,hl,?_⟩,rfl⟩,⟨len,ds,rfl,by omega,h2⟩,λhc=>⟨⟨Nat.le_trans hbl.1 hc,hsm hc⟩,trivial⟩⟩
   by_cases h0:len=0
   ·subst h0;have hv:vs=[]:=List.eq_nil_of_length_eq_zero (by simpa using h3);subst hv;cases ds with
    |nil=>exact .inl ⟨rfl,rfl⟩
    |cons d r=>obtain⟨x,ys,hh,_⟩:=h1;cases hh
   have hpos:0<vs.length:=by rw[h3];exact Nat.mul_pos (by omega) hok.1
   have hc0:=h4 0 vs[0] (List.getElem?_eq_getElem hpos);simp only[Nat.zero_mul,Nat.add_zero,Addr.add,if_true]at hc0;obtain⟨ab,ao,asp⟩:=a;cases asp with
   |some s=>
    simp only[World.cell?]at hc0;split at hc0<;>simp at hc0
   |none=>
    refine .inr ⟨ab,ao,rfl,CR.of_cells hIm ab ds ao vs h1 λi v hv=>?_⟩;have:=h4 i v hv;rw[Nat.zero_mul,Nat.zero_add]at this;rw[<-this];unfold Addr.add
    split
    ·rename_i e;subst e;simp
    rfl
  ·rename_i fs ht;simp only[Bool.and_eq_true,decide_eq_true_eq,List.all_eq_true]at hok;obtain⟨xs,n',hn,hxe,hlen,hxl,hf⟩:=DataW.trod_struct ht h
   have hbl:∀y∈xs,uptoBulk y.1<=uptoBulk x.1:=λy hy=>by
    rw[hxe];simp only[uptoBulk];have:=z2d (xs.map (·.1)) y.1 (List.mem_map.2 ⟨y,hy,rfl⟩);omega
   have:=z5a (w:=w) (Im:=Im) (hI n') (uptoBulk x.1<=B) cs fs.toList 0 (by rw[hok.1,hlen]) hok.2 (λf hfm=>by
    obtain⟨i,hi,rfl⟩:=List.getElem_of_mem hfm;have hi':i<fs.size:=by simpa using hi
    have:=hf i fs[i] (by simp);refine⟨xs[i]'(by omega),?_,λhc=>Nat.le_trans (hbl _ (List.getElem_mem _)) hc⟩
    simpa using this.trans (List.getElem?_eq_getElem (by omega))) (Nat.zero_le _)
   simpa using this
  ·rename_i m e ht;simp only[Bool.and_eq_true,decide_eq_true_eq]at hok;obtain⟨xs,n',hn,hxe,hlen,hxl,hf⟩:=DataW.trod_array ht h
   have hbl:∀y∈xs,uptoBulk y.1<=uptoBulk x.1:=λy hy=>by
    rw[hxe];simp only[uptoBulk];have:=z2d (xs.map (·.1)) y.1 (List.mem_map.2 ⟨y,hy,rfl⟩);omega
   have:=z8j (w:=w) (Im:=Im) (hI n') (uptoBulk x.1<=B) hok.2 cs (P.cellsOf e) m 0 (by rw[hlen,hok.1];simp) (λi hi=>by
    have:=hf i hi;refine⟨xs[i]'(by omega),?_,λhc=>Nat.le_trans (hbl _ (List.getElem_mem _)) hc⟩;rw[Nat.zero_add]
    exact this.trans (List.getElem?_eq_getElem (by omega)))
   simpa using this
  cases hok
def zyq(P:Program)(t:TypeId)(x:D):Prop:=
 match P.underlying t with
 |some (.struct _)=>∃ds,x=.agg ds/\fit P 8 t ds
 |some (.array _ _)=>∃ds,x=.agg ds/\fit P 8 t ds
 |_=>fit P 8 t [x]
def z9t(P:Program):List TypeId->List D->Prop
 |[],xs=>xs=[]
 |t::ts,xs=>∃x ys,xs=x::ys/\zyq P t x/\z9t P ts ys
theorem yxf(hIm:∀b j v,w.cell? ⟨b,j,none⟩=some v->Im b j){r:Reach}{b0:Nat}{t:TypeId}{v:Value}{d:DataW H}{ps:List MemPlace}(hok:okT P 8 t=true)(hv:Value.okWide P w r b0 t v)(h:DataW.Trod enc P w base sp held t v d ps):
  ∃x,DR w Im x v/\zyq P t x/\(uptoBulk d<=B->yps B x):=by
 obtain⟨n,hn⟩:=h;obtain⟨ds,h1,h2,hsm⟩:=yoy (B:=B) hIm 8 n t _ _ hok hn
 have leaf:(∀cs,v≠.agg cs)->∃x,ds=[x]/\DR w Im x v:=by
  intro hna;have hc:v.cells.toList=[v]:=by cases v<;>first|rfl|exact absurd rfl (hna _)
  rw[hc]at h1;cases ds with
  |nil=>cases h1
  |cons x r=>
   obtain⟨y,ys,e,_,k1,k2⟩:=h1;cases e;cases r with
   |nil=>exact⟨x,rfl,k1⟩
   |cons z q=>obtain⟨_,_,e,_⟩:=k2;cases e
 unfold zyq;unfold Value.okWide at hv
 split at hv
 ·rename_i fs ht;obtain⟨cs,rfl,_⟩:=hv;rw[ht];exact⟨.agg ds,⟨cs,rfl,h1⟩,⟨ds,rfl,h2⟩,hsm⟩
 ·rename_i m e ht;obtain⟨cs,rfl,_⟩:=hv;rw[ht];exact⟨.agg ds,⟨cs,rfl,h1⟩,⟨ds,rfl,h2⟩,hsm⟩
 rename_i n1 n2
 have hna:∀cs,v≠.agg cs:=by
  rintro cs rfl;simp only[okT]at hok
  split at hok
  ·rename_i ht;simp[Cell.okWide,Cell.ok,ht]at hv
  ·rename_i ht;simp[Cell.okWide,Cell.ok,ht]at hv
  ·rename_i ht;simp[Cell.okWide,Cell.ok,ht]at hv
  ·rename_i ht;simp[Cell.okWide,Cell.ok,ht]at hv
  ·rename_i ht;exact n1 _ ht
  ·rename_i ht;exact n2 _ _ ht
  cases hok
 obtain⟨x,rfl,hx⟩:=leaf hna;refine⟨x,hx,?_,λhb=>(hsm hb).1⟩
 split
 ·rename_i ht;exact absurd ht (n1 _)
 ·rename_i ht;exact absurd ht (n2 _ _)
 exact h2
theorem yus(hIm:∀b j v,w.cell? ⟨b,j,none⟩=some v->Im b j){r:Reach}{b0:Nat}(s:S)(hw:s.w=w)(him:s.Im=Im):∀(ts:List TypeId)(vs:List Value)(ds:List (DataW H))(ps:List MemPlace),(∀t∈ts,okT P 8 t=true)->
  (∀(j:Nat)t v,ts[j]?=some t->vs[j]?=some v->Value.okWide P w r b0 t v)->DataW.TrodAll enc P w base sp held ts vs ds ps->∃xs:List D,VRt s (asV xs) vs/\z9t P ts xs/\(uptoBulkAll ds<=B->zl7 B xs)
 |[],vs,ds,ps,_,_,h=>by
  obtain⟨rfl,_,_⟩:=trodAll_nil h;exact⟨[],rfl,rfl,λ_=>trivial⟩
 |t::ts,vs,ds,ps,hok,hv,h=>by
  obtain⟨v,vs',d,ds',p,q,rfl,rfl,rfl,h1,h2⟩:=trodAll_cons h;obtain⟨x,k1,k2,k5⟩:=yxf (B:=B) hIm (hok t (by simp)) (hv 0 t v rfl rfl) h1;obtain⟨xs,k3,k4,k6⟩:=yus hIm s hw him ts vs' ds' q (λt ht=>hok t (by simp[ht])) (λj t v h1 h2=>hv (j+1) t v (by simpa using h1) (by simpa using h2)) h2
  refine⟨x::xs,⟨v,vs',rfl,?_,k3⟩,⟨x,xs,rfl,k2,k4⟩,λhb=>by
   simp only[uptoBulkAll]at hb
   exact⟨k5 (by omega),k6 (by omega)⟩⟩
  show DR s.w s.Im x v;rw[hw,him];exact k1
theorem ya5(hl:laidOutB P=true){W W':World}{sp':Nat->Bool}:∀(ts:List TypeId)(vs:List Value)(ds:List (DataW H))(ps:List MemPlace),(∀t∈ts,P.readableRec t=true/\t<P.types.size)->
  DataW.TrodAll enc P W base (λ_=>true) true ts vs ds ps->(∀p∈ps,W.sameAt W' p)->(∀p∈ps,sp' p.block=true)->DataW.TrodAll enc P W' base sp' true ts vs ds ps
 |[],vs,ds,ps,_,h,_,_=>by
  obtain⟨rfl,rfl,rfl⟩:=trodAll_nil h;exact trodAll_mk0
 |t::ts,vs,ds,ps,ht,h,hs,hsp=>by
  obtain⟨v,vs',d,ds',p,q,rfl,rfl,rfl,h1,h2⟩:=trodAll_cons h
  exact trodAll_cons_mk (WideElems.Trod_stays hl (ht t (by simp)).1 (ht t (by simp)).2 h1 (λx hx=>hs x (by simp[hx])) (λx hx=>hsp x (by simp[hx])))
   (ya5 hl ts vs' ds' q (λt h=>ht t (by simp[h])) h2 (λx hx=>hs x (by simp[hx])) (λx hx=>hsp x (by simp[hx])))
theorem yry{name:String}{k:IntKind}{zs:List Int}{g:Nat}{t e:TypeId}{n:Nat}(hg:P.globalNamed name=some g)(hty:(P.globals[g]?).map (·.type)=some t)(ht:P.underlying t=some (.array n e))(he:P.underlying e=some (.int k))
  (hce:P.cellsOf e=1)(hct:P.cellsOf t=n):∀(l:List (String×DataW Unit))(ps:List MemPlace),(name,Lib.tabData k zs)∈l->DataW.LaidVars P w l ps->Lib.TabIs P w name k zs
 |[],_,h,_=>by cases h
 |(m,dd)::r,ps,h,hl=>by
  obtain⟨g',t',cs,fuel,p,q,hg',ht',hvar,hd,hrest,_⟩:=hl
  rcases List.mem_cons.1 h with e1|e1
  ·cases e1;obtain rfl:=Option.some.inj (hg.symm.trans hg');obtain rfl:=Option.some.inj (hty.symm.trans ht');unfold Lib.TabIs;rw[hvar,<-Lib.cells_of_tab ht he hce hct hd]
  exact yry hg hty ht he hce hct r q e1 hrest
theorem yl8{enc:TypeId×Value->Unit}{t:TypeId}{ms:Array (String×TypeId)}(hu:P.underlying t=some (.interface ms)){b0:Nat}{sp':Nat->Bool}{hd:Bool}{fuel:Nat}{cs:List Value}{nm:String}{e:DataW Unit}{ps:List MemPlace}(h:DataW.trod enc P w b0 sp' hd fuel t cs=some (.iface nm e,ps)):∃te pe,cs=[.iface te pe]:=by
 cases fuel with
 |zero=>simp[DataW.trod]at h
 |succ fuel=>
  unfold DataW.trod at h;simp only[hu]at h;split at h
  all_goals try(rename_i hq;cases hq;done)
  all_goals first|exact⟨_,_,rfl⟩|(cases h;done)|(simp at h;done)
theorem yrx{name nm:String}{d:DataW Unit}{g:Nat}{t:TypeId}{ms:Array (String×TypeId)}(hg:P.globalNamed name=some g)(hty:(P.globals[g]?).map (·.type)=some t)(ht:P.underlying t=some (.interface ms)):
  ∀(l:List (String×DataW Unit))(ps:List MemPlace),(name,.iface nm d)∈l->DataW.LaidVars P w l ps->∃te pe,World.var? P w name=some #[.iface te pe]
 |[],_,h,_=>by cases h
 |(m,dd)::r,ps,h,hl=>by
  obtain⟨g',t',cs,fuel,p,q,hg',ht',hvar,hd,hrest,_⟩:=hl
  rcases List.mem_cons.1 h with e1|e1
  ·cases e1;obtain rfl:=Option.some.inj (hg.symm.trans hg');obtain rfl:=Option.some.inj (hty.symm.trans ht');obtain⟨te,pe,hc⟩:=yl8 ht hd;refine⟨te,pe,?_⟩;rw[hvar];congr 1;exact Array.toList_inj.1 hc
  exact yrx hg hty ht r q e1 hrest
theorem yyq{name:String}{g:Nat}(hIm:∀b j v,w.cell? ⟨b,j,none⟩=some v->Im b j)(hg:P.globalNamed name=some g)(h:∃te pe,World.var? P w name=some #[.iface te pe]):
  CR w Im g 0 [.ifc true]/\[D.ifc true]≠[]/\∃arr t fz,w.heap[g]?=some (.cells arr t fz)/\arr.size=1:=by
 obtain⟨te,pe,h⟩:=h;unfold World.var? at h;rw[hg]at h;simp only[Option.bind_some]at h
 split at h
 ·rename_i arr t fz hh;simp only[Option.some.injEq]at h;subst h;refine⟨CR.of_cells hIm g _ 0 [.iface te pe] ⟨_,_,rfl,rfl,.inr ⟨te,pe,rfl⟩,rfl⟩ λi v hv=>?_,by simp,⟨_,t,fz,hh,rfl⟩⟩
  match i,hv with
  |0,hv=>
   obtain rfl:=Option.some.inj hv;simp[World.cell?,hh]
 cases h
theorem yyr{name:String}{k:IntKind}{zs:List Int}{g:Nat}(hIm:∀b j v,w.cell? ⟨b,j,none⟩=some v->Im b j)(hg:P.globalNamed name=some g)(h:Lib.TabIs P w name k zs):
  CR w Im g 0 (zs.map (.int k))/\∃arr t fz,w.heap[g]?=some (.cells arr t fz)/\arr.size=(zs.map (D.int k)).length:=by
 have hc:∀i,i<zs.length->w.cell? ⟨g,i,none⟩=some (.int k (zs.getD i 0)):=λi hi=>h.cell hg i hi
 constructor
 ·refine CR.of_cells hIm g _ 0 (zs.map (Value.int k)) ?_ λi v hv=>?_
  ·clear hc h;induction zs with
   |nil=>rfl
   |cons z r ih=>exact⟨_,_,rfl,rfl,rfl,ih⟩
  simp only[List.getElem?_map,Option.map_eq_some_iff]at hv;obtain⟨z,hz,rfl⟩:=hv
  have hi:i<zs.length:=by
   rcases Nat.lt_or_ge i zs.length with h|h
   ·exact h
   rw[List.getElem?_eq_none h]at hz;cases hz
  rw[Nat.zero_add,hc i hi,List.getD,hz];rfl
 unfold Lib.TabIs World.var? at h;rw[hg]at h;simp only[Option.bind_some]at h
 split at h
 ·rename_i arr t fz hh;simp only[Option.some.injEq]at h;exact⟨arr,t,fz,hh,by rw[h];simp⟩
 cases h
end
def zv9(w:World):S:=⟨λ_=>undef,[],w,λb j=>(w.cell? ⟨b,j,none⟩).isSome⟩
theorem yq3(w:World):∀b j v,w.cell? ⟨b,j,none⟩=some v->(zv9 w).Im b j:=λb j v h=>by
 show(w.cell? ⟨b,j,none⟩).isSome=true;rw[h];rfl
theorem yw8{P:Program}{w:World}{g:Nat}{t:TypeId}{zero:Array Value}{k:IntKind}(h:w.ShapedOpen P)(hg:g<P.globals.size)
  (h0:((begin P (λ_ _=>0) default).world.heap[g]?).bind Obj.row?=some (zero,t))(hz:zero.size=1)
  (hb:P.buildable t=true)(hc:P.cellTypes P.depth t=some [t])(hu:P.underlying t=some (.int k)):
  ∃m:Int,CR w (zv9 w).Im g 0 [.int k m]/\[D.int k m]≠[]/\∃arr t fz,w.heap[g]?=some (.cells arr t fz)/\arr.size=1:=by
 obtain⟨m,hm⟩:=Go.Proofs.cell_of_shapedOpen_int h hg h0 hz hb hc hu;obtain⟨cs,hh,hs,_⟩:=h.1 g zero t hg h0;refine⟨m,CR.of_cells (yq3 w) g _ 0 [.int k m] ⟨_,_,rfl,rfl,rfl,rfl⟩ λi v hv=>?_,by simp,⟨cs,t,_,hh,by omega⟩⟩
 match i,hv with
 |0,hv=>
  obtain rfl:=Option.some.inj hv;exact hm
theorem yxi{oc:zel}{gl:Globs}{w:World}(h:∀g cs,(g,cs)∈gl->CR w (zv9 w).Im g 0 cs/\cs≠[]/\∃arr t fz,w.heap[g]?=some (.cells arr t fz)/\arr.size=cs.length):Sim oc gl (zv9 w):=
 ⟨λi o h=>by simp[zv9,look]at h,λi j o o' b _ h=>by simp[zv9,look]at h,λb j hj=>by
  have hj:(w.cell? ⟨b,j,none⟩).isSome=true:=hj
  rcases Nat.lt_or_ge b w.heap.size with hlt|hge
  ·exact hlt
  ·have:w.heap[b]?=none:=Array.getElem?_eq_none hge;simp[World.cell?,this]at hj,
  λg cs hg=>(h g cs hg).1,λg cs hg=>⟨λi o h=>by simp[zv9,look]at h,(h g cs hg).2⟩⟩
theorem yxt{P:Program}{gl:Globs}{Γ:Nat->Option CF}{X:Extern}{E:Oracle}(hmx:P.follows .mixedOrders=true)(hX:ExternOk P gl X)(hΓ:CodeOk P gl Γ)(hE:Lim Γ X E){f:Nat}{xs:List D}{vs:List Value}{W:World}
  (hs:Sim (ztl P gl) gl (zv9 W))(h:Fc E f (asV xs) (.d (.bool true)))(hv:VRt (zv9 W) (asV xs) vs):Calls P f vs.toArray W λe W'=>e=.returned (.bool true)/\Below W.heap.size W W':=by
 obtain⟨v,m',h1,h2⟩:=h;obtain⟨n,hn⟩:=hE.reach _ _ h1
 have hvb:v=.d (.bool true):=by
  cases v with
  |d x=>simpa[thaw,freeze]using h2
  |agg cs=>
   simp only[thaw,freeze,Option.map_eq_some_iff]at h2;obtain⟨d,⟨ds,_,rfl⟩,h4⟩:=h2;simp at h4
  |tup vs=>
   simp only[thaw,Option.map_eq_some_iff]at h2;obtain⟨d,_,h4⟩:=h2;simp at h4
  |ref o a b c=>
   simp only[thaw,freeze]at h2
   split at h2
   ·split at h2<;>simp at h2
   simp at h2
  |fn f a b=>cases a<;>cases b<;>simp[thaw,freeze]at h2
  |_=>simp[thaw,freeze]at h2
 subst hvb;refine(zyj hmx hX hΓ hn hs rfl hv).mono λe W' hh=>?_
 obtain⟨s',x,rfl,rfl,_,hE',_,hx⟩:=hh;have hx:x=.bool true:=hx;subst hx;refine⟨rfl,hE'.os,hE'.tape.tape,hE'.output,hE'.size,λb hb=>(hE'.frame b hb λi o h=>by simp[zv9,look]at h).1⟩
end Go.Evl
