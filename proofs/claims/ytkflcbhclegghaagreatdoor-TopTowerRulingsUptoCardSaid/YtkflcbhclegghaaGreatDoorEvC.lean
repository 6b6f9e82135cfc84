
/-
 The evaluator is sound, second part: rows, texts, maps, equality, calls.
-/
import Derived.Test.YtkflcbhclegghaaGreatDoorEvB
import Derived.ArgAppend
import Derived.Maps.AppendAt
import Derived.Deep.AppendLies
import Derived.Lib.AppendStr
import Derived.Laws.StructEq
import Derived.ChangeKeysEq
import Derived.MapKept
import Derived.Laws.RangeAny
namespace Go.Evl
open Go.RowKit
theorem z28{α:Type}:∀(m:Ask α)(w:World),w.drawn<=(w.ask m).2.drawn
 |.done a,w=>Nat.le_refl _
 |.ask what range k,w=>by
  unfold World.ask;dsimp only
  split
  ·exact z28 _ _
  exact Nat.le_trans (Nat.le_succ _) (z28 _ {w with drawn:=w.drawn+1})
theorem yp7(w:World)(c:Sys):w.drawn<=(w.sys c).2.drawn:=by
 have h:=z28 (Kernel.perform c w.os) w;unfold World.sys
 split
 ·exact Nat.le_refl _
 rename_i e;rw[e]at h;exact h
theorem z52{p:Program}{w:World}{a k:Addr}{u:TypeId}{v:Value}{b:Bool}{w':World}{l:List Addr}(h:w.viewStore p a u k v b=.ok (w',l)):w'.drawn=w.drawn:=by
 unfold World.viewStore at h;simp only[bind,Except.bind,pure,Except.pure]at h
 repeat' split at h
 all_goals try(cases h;done)
 all_goals
  simp only[Except.ok.injEq,Prod.mk.injEq]at h;obtain⟨rfl,_⟩:=h
  rfl
theorem z6l{p:Program}{w:World}{a:Addr}{v:Value}{b:Bool}{w':World}{l:List Addr}(h:w.farStore p a v b=.ok (w',l)):w'.drawn=w.drawn:=by
 unfold World.farStore at h
 split at h
 ·split at h
  ·rename_i e;simp only[Except.ok.injEq]at h;subst h;exact z52 e
  cases h
 cases h
theorem z5h{α:Type}(p:Program):∀(m:Sem α)(w:World)(a:α)(w':World),m.run p w=.ok a w'->w.drawn<=w'.drawn:=by
 intro m;induction m with
 |pure a=>intro w b w' h;simp only[Sem.run,Result.ok.injEq]at h;rw[h.2];exact Nat.le_refl _
 |load m a k ih=>
  intro w b w' h;simp only[Sem.run]at h
  split at h
  ·exact ih _ _ _ _ h
  split at h
  ·exact ih _ _ _ _ h
  cases h
 |store m a v k ih=>
  intro w b w' h;cases v<;>simp only[Sem.run]at h
  all_goals try(cases h;done)
  all_goals
   split at h
   ·split at h
    ·cases h
    have:=ih _ _ _ h;exact this
   split at h
   ·rename_i e;have:=ih _ _ _ h;rw[z6l e]at this;exact this
   cases h
 |new o k ih=>
  intro w b w' h;simp only[Sem.run]at h;exact ih _ {w with heap:=w.heap.push o} _ _ h
 |shape r k ih=>intro w b w' h;exact ih _ _ _ _ h
 |freeze a n k ih=>
  intro w b w' h;have:=ih _ _ _ h;unfold World.freeze at this;split at this<;>exact this
 |frozen a k ih=>intro w b w' h;exact ih _ _ _ _ h
 |getObj r k ih=>
  intro w b w' h;simp only[Sem.run]at h
  split at h
  ·cases h
  ·exact ih _ _ _ _ h
  cases h
 |setObj r o k ih=>
  intro w b w' h;simp only[Sem.run]at h
  split at h
  ·cases h
  ·exact ih {w with heap:=w.heap.setIfInBounds r o} _ _ h
  cases h
 |choose q k ih=>
  intro w b w' h;simp only[Sem.run]at h
  split at h
  ·exact ih _ _ _ _ h
  exact Nat.le_trans (Nat.le_succ _) (ih _ _ _ _ h)
 |sys c k ih=>intro w b w' h;exact Nat.le_trans (yp7 w c) (ih _ _ _ _ h)
 |program k ih=>intro w b w' h;exact ih _ _ _ _ h
 |mark m k ih=>intro w b w' h;exact ih _ _ _ h
 |halt h=>intro w b w' h;cases h
section
variable{P:Program}{oc:zel}{gl:Globs}{s:S}{A:Act}{o:Oper}{e:Env}
theorem yix(hs:Sim oc gl s){sz:Nat}:∀(vs:List V)(xs:List Value)(ds:List D),VRt s vs xs->ztk sz s.m vs=some ds->
  DRs s.w s.Im ds (xs.flatMap (·.cells.toList))/\(∀x∈xs,x.cells.size=sz)/\vs.length=xs.length
 |[],xs,ds,hv,h=>by
  simp only[VRt]at hv;subst hv;simp only[ztk,Option.some.injEq]at h;subst h;exact⟨rfl,by simp,rfl⟩
 |v::r,xs,ds,hv,h=>by
  obtain⟨x,ys,rfl,h1,h2⟩:=hv;simp only[ztk]at h
  split at h
  ·rename_i d ds' e1 e2
   split at h
   ·rename_i hl;obtain rfl:=Option.some.inj h;have hd:=ybu hs e1 h1;obtain⟨k1,k2,k3⟩:=yix hs r ys ds' h2 e2;refine⟨by simpa using DRs.append _ _ _ _ hd k1,λy hy=>?_,by simp[k3]⟩
    rcases List.mem_cons.1 hy with rfl|hy
    ·have:=DRs.length _ _ hd;simp at this;omega
    exact k2 y hy
   cases h
  cases h
theorem yh9(size:Nat):∀(xs:List Value)(i:Nat)(cells:Array Value),(∀x∈xs,x.cells.size=size)->cells.size=(i+xs.length)*size->
  ∃r,Instr.fill (λi=>some (i*size,size)) cells (xs.zipIdx i|>.map λp=>(p.2,p.1))=some r/\r.toList=cells.toList.take (i*size)++xs.flatMap (·.cells.toList)
 |[],i,cells,_,hsz=>by
  refine⟨cells,rfl,?_⟩;simp only[List.length_nil,Nat.add_zero]at hsz;simp[List.take_of_length_le,hsz]
 |x::r,i,cells,h1,hsz=>by
  have hx:x.cells.size=size:=h1 x (by simp);have hmul:(i+(r.length+1))*size=i*size+size+r.length*size:=by rw[Nat.add_mul,Nat.add_mul];omega
  simp only[List.length_cons]at hsz;rw[hmul]at hsz;have hle:i*size+x.cells.size<=cells.size:=by omega
  have hlaid:=z7x (i*size) x cells hle
  have hsz2:(x.cells.zipIdx.foldl (λcs p=>cs.setIfInBounds (i*size+p.2) p.1) cells).size=(i+1+r.length)*size:=by
   have:(x.cells.zipIdx.foldl (λcs p=>cs.setIfInBounds (i*size+p.2) p.1) cells).toList.length=cells.toList.length:=by
    rw[hlaid,zi6 _ _ _ (by simpa using hle)]
   simp only[Array.length_toList]at this;rw[this,hsz,Nat.add_mul,Nat.add_mul];omega
  obtain⟨res,k1,k2⟩:=yh9 size r (i+1) _ (λy hy=>h1 y (by simp[hy])) hsz2
  refine⟨res,?_,?_⟩
  ·simp only[List.zipIdx_cons,List.map_cons,Instr.fill];rw[if_neg (by simp[hx];omega)];exact k1
  rw[k2,hlaid];simp only[List.flatMap_cons];rw[<-List.append_assoc];congr 1;rw[patch,Nat.add_mul,Nat.one_mul]
  have e1:(cells.toList.take (i*size)++x.cells.toList).length=i*size+size:=by
   simp[hx];omega
  rw[<-e1,List.take_left]
theorem z7y(sz:Nat)(m m':Mem):∀(vs:List V)(ds:List D),yip vs=true->ztk sz m vs=some ds->ztk sz m' vs=some ds
 |[],ds,_,h=>h
 |v::r,ds,hd,h=>by
  cases v<;>simp only[yip,Bool.false_eq_true]at hd;simp only[ztk]at h⊢;have e1:∀(m:Mem)(x:D),zsz m (.d x)=zsz m' (.d x):=λm x=>by simp[zsz,freeze]
  rw[e1 m]at h;split at h<;>try cases h
  rename_i x xs h1 h2;rw[z7y sz m m' r xs hd h2,h1];exact h
def yvv(P:Program)(gl:Globs)(o:Oper)(sz n:Nat)(parts:List Opd):Bool:=
 match o.op with
 |.buildSlice t len ps=>len==n&&parts.length==n&&z0m gl 0 ps.toList parts&&decide (n*sz<=16777216)&&
   (match zrm P t with|some el=>zq2 P el==some sz&&(z60 P el).isSome|none=>false)
 |_=>false
theorem z79(hs:Sim oc gl s)(he:zc9 s e A.tmps):∀(ps:List (Nat×Operand))(parts:List Opd)(i:Nat),z0m gl i ps parts=true->
  VRt s (evs e parts) (ps.map λp=>A.eval p.2)/\(ps.map λp=>(p.1,A.eval p.2))=((ps.map λp=>A.eval p.2).zipIdx i).map λp=>(p.2,p.1)
 |[],[],_,_=>⟨rfl,rfl⟩
 |[],_::_,_,h=>by simp[z0m]at h
 |(_,_)::_,[],_,h=>by simp[z0m]at h
 |(j,a)::r,x::q,i,h=>by
  simp only[z0m,Bool.and_eq_true,beq_iff_eq]at h;obtain⟨⟨rfl,h1⟩,h2⟩:=h;obtain⟨k1,k2⟩:=z79 hs he r q (j+1) h2;refine⟨⟨_,_,rfl,zbg hs he h1,k1⟩,?_⟩;simp only[List.map_cons,List.zipIdx_cons,k2]
theorem z7i(e:Env):∀(l:List Opd),(evs e l).length=l.length
 |[]=>rfl
 |_::r=>by simp[evs,z7i e r]
theorem z6u [Clk]{t el:TypeId}{sz len:Nat}{z:Value}{parts:Array (Nat×Value)}{r:Array Value}(hu:P.underlying t=some (.slice el))(hsz:zq2 P el=some sz)(hz:∀w,(zeroValue el).run P w=.ok z w)
  (hb:¬ 2^24<len*sz)(zc:Array Value)(hzc:zc=if len*sz=0 then #[]else z.cells)
  (hfill:Instr.fill (λi=>some (i*sz,sz)) ((Array.range (len*sz)).map (zc[·%zc.size]!)) parts.toList=some r)(w:World):
  (Instr.buildSlice t len parts).run P w=.ok (.slice (some ⟨w.heap.size,0,none⟩) len len) (w.alloc (.cells r el)):=by
 unfold Instr.buildSlice;simp only[Sem.run_bind,run_underlying hu,Result.andThen_ok,zhz hsz,gt_iff_lt,hb,if_false]
 by_cases h0:len*sz=0
 ·rw[if_pos h0]at hzc⊢;subst hzc;simp only[Sem.run_bind,Sem.run_pure,Result.andThen_ok];rw[hfill];simp[newRow]
 rw[if_neg h0]at hzc⊢;subst hzc;simp only[Sem.run_bind,Sem.run_pure,Result.andThen_ok,hz];rw[hfill];simp[newRow]
theorem yuc [Clk](hs:Sim oc gl s)(he:zc9 s e A.tmps){sz n:Nat}{parts:List Opd}{ds:List D}(ok:yvv P gl o sz n parts=true)(h:ztk sz s.m (evs e parts)=some ds):
  ∃el cells,(execOp A.eval o).run P s.w=.ok (.value (.slice (some ⟨s.w.heap.size,0,none⟩) n n)) (s.w.alloc (.cells cells el))/\DRs s.w s.Im ds cells.toList/\cells.size=n*sz/\∃t len ps,o.op=.buildSlice t len ps/\zrm P t=some el:=by
 unfold yvv at ok;split at ok<;>try cases ok
 rename_i t len ps ho;simp only[Bool.and_eq_true,beq_iff_eq,decide_eq_true_eq]at ok;obtain⟨⟨⟨⟨rfl,hn⟩,okp⟩,hbig⟩,hty⟩:=ok;split at hty<;>try cases hty
 rename_i el hel;simp only[Bool.and_eq_true,beq_iff_eq]at hty;obtain⟨hsz,hz⟩:=hty;obtain⟨vals,hvals⟩:=Option.isSome_iff_exists.1 hz;obtain⟨z,hzr,_⟩:=ya8 hvals;have hu:=zi7 hel;obtain⟨hv,hzip⟩:=z79 (A:=A) hs he ps.toList parts 0 okp;obtain⟨hd,hall,hlen⟩:=yix hs _ _ ds hv h;rw[z7i,hn]at hlen;obtain⟨zc,hzc⟩:∃zc:Array Value,zc=if len*sz=0 then #[]else z.cells:=⟨_,rfl⟩
 obtain⟨r,hr,hrl⟩:=yh9 sz (ps.toList.map λp=>A.eval p.2) 0 ((Array.range (len*sz)).map (zc[·%zc.size]!)) hall (by simp[<-hlen])
 refine⟨el,r,?_,?_,?_,t,len,ps,ho,hel⟩
 ·have hfill:Instr.fill (λi=>some (i*sz,sz)) ((Array.range (len*sz)).map (zc[·%zc.size]!)) (ps.map λ(i,x)=>(i,A.eval x)).toList=some r:=by
   rw[<-hr,<-hzip];simp
  have:=z6u (P:=P) hu hsz hzr (by omega) zc hzc hfill s.w;simp only[execOp,ho,Sem.run_bind,this,Result.andThen_ok]
  rfl
 ·rw[hrl];simpa using hd
 have:=DRs.length _ _ hd
 have hl2:r.toList.length=len*sz:=by
  rw[hrl];simp only[Nat.zero_mul,List.take_zero,List.nil_append]
  have gen:∀(l:List Value),(∀x∈l,x.cells.size=sz)->(l.flatMap (·.cells.toList)).length=l.length*sz:=by
   intro l;induction l with
   |nil=>intro _;simp
   |cons y l ih=>intro hy;simp only[List.flatMap_cons,List.length_append,ih (λx hx=>hy x (by simp[hx])),Array.length_toList,hy y (by simp),List.length_cons,Nat.add_mul];omega
  rw[gen _ hall,<-hlen]
 simpa using hl2
theorem z1e [Clk](hs:Sim oc gl s)(he:zc9 s e A.tmps){sz n:Nat}{parts:List Opd}{ds:List D}(ok:yvv P gl o sz n parts=true)(h:ztk sz s.m (evs e parts)=some ds):
  ze9 P oc gl s A o (.d (.list n ds)) s.m:=by
 obtain⟨el,cells,hr,hd,hsz,_⟩:=yuc (P:=P) hs he ok h
 obtain⟨k1,k2⟩:=hs.calm (s.w.alloc (.cells cells el)) (λb j=>s.Im b j\/(b=s.w.heap.size/\j<n*sz)) rfl Tk.of rfl (by simp) (λb hb=>heap_alloc_old _ _ _ hb) (λ_ _ h=>.inl h)
  (λb j h=>h.imp id λh=>by omega) (λb j h=>h.elim (λh=>Nat.lt_of_lt_of_le (hs.imlt b j h) (by simp)) (λh=>by simp;omega))
 refine⟨_,_,hr,k1,k2,rfl,?_⟩
 refine⟨_,_,rfl,Nat.le_refl _,.inr ⟨_,0,rfl,CR.mk ds cells.toList 0 (DRs.ext k2.im k2.keep ds _ hd) (λj v hj=>?_) (λj hj=>.inr ⟨rfl,?_⟩)⟩⟩
 ·rw[Nat.zero_add,cell_of_row _ _ j cells el (0,0) (heap_alloc_new _ _)];simpa using hj
 simp at hj;omega
theorem ylb [Clk](hs:Sim oc gl s)(i:Id)(hi:look s.m i=none)(wr:Bool)(t sz n:Nat)(ds:List D)(cells:Array Value)(hz:0<sz)(hm:n<=maxLen)(hd:DRs s.w s.Im ds cells.toList)(hsz:cells.size=n*sz):
  Sim oc gl ⟨λk=>if i=k then .slice (some ⟨s.w.heap.size,0,none⟩) n n else s.φ k,upd s.m i (.row wr t sz n ds),s.w.alloc (.cells cells t),λb j=>s.Im b j\/(wr=false/\b=s.w.heap.size/\j<n*sz)⟩/\
  Ext (λ_=>True) s ⟨λk=>if i=k then .slice (some ⟨s.w.heap.size,0,none⟩) n n else s.φ k,upd s.m i (.row wr t sz n ds),s.w.alloc (.cells cells t),λb j=>s.Im b j\/(wr=false/\b=s.w.heap.size/\j<n*sz)⟩:=
 hs.change i _ _ _ _ rfl Tk.of rfl (by simp) (λb hb _=>heap_alloc_old _ _ _ hb) (λ_ _ h=>.inl h)
  (λb j hj=>World.cell?_of_block (heap_alloc_old _ _ _ (hs.imlt b j hj))) (λb j h=>h.imp id λh=>by rw[h.2.1];rfl)
  (λb j h=>by
   rcases h with h|h
   ·exact Nat.lt_of_lt_of_le (hs.imlt b j h) (by simp)
   simp;omega)
  (λb h=>by simp[blk]at h;subst h;exact .inl (Nat.le_refl _)) (λo h=>by rw[hi]at h;cases h)
  (λhE=>⟨hz,cells.toList,⟨by simpa using hsz,.inr ⟨s.w.heap.size,n,cells,rfl,Nat.zero_le _,heap_alloc_new _ _,Nat.le_refl _,hm,hsz,by rw[List.take_of_length_le (by simp[hsz])]⟩⟩,
   DRs.ext hE.im hE.keep ds _ hd,λb hb j=>by
    simp[Value.ownBlock]at hb;subst hb
    exact⟨λh=>by
     rcases h with h|h
     ·exact absurd (hs.imlt _ j h) (Nat.lt_irrefl _)
     exact⟨h.1,h.2.2⟩,λh=>.inr ⟨h.1,rfl,h.2⟩⟩⟩)
def yga(P:Program)(gl:Globs)(o:Oper)(r:zd6)(n:Nat)(parts:List Opd):Bool:=
 yvv P gl o r.sz n parts&&decide (0<r.sz)&&(match o.op with|.buildSlice t _ _=>zrm P t==some r.t|_=>false)
theorem yg5 [Clk](hs:Sim oc gl s)(he:zc9 s e A.tmps)(cx:Cx)(slot:Nat){r:zd6}{n:Nat}{parts:List Opd}{ds:List D}(ok:yga P gl o r n parts=true)(h:ztk r.sz s.m (evs e parts)=some ds):
  ze9 P oc gl s A o (.ref (newId cx slot s.m) 0 n n) (upd s.m (newId cx slot s.m) (.row r.wr r.t r.sz n ds)):=by
 simp only[yga,Bool.and_eq_true,decide_eq_true_eq]at ok;obtain⟨⟨ok,hz⟩,ht⟩:=ok;obtain⟨el,cells,hr,hd,hsz,t,len,ps,ho,hel⟩:=yuc (P:=P) hs he ok h
 have hn:n*r.sz<=16777216:=by
  unfold yvv at ok;split at ok<;>try cases ok
  simp only[Bool.and_eq_true,decide_eq_true_eq]at ok;exact ok.1.2
 rw[ho]at ht;simp only[beq_iff_eq]at ht;obtain rfl:el=r.t:=by rw[hel]at ht;exact Option.some.inj ht
 have hn2:n<=n*r.sz:=Nat.le_mul_of_pos_right _ hz;obtain⟨k1,k2⟩:=ylb hs (newId cx slot s.m) (zed _ _ _) r.wr r.t r.sz n ds cells hz (by simp only[maxLen];omega) hd hsz;exact⟨_,_,hr,k1,k2,rfl,zji s _ (.slice (some ⟨s.w.heap.size,0,none⟩) n n) rfl _ _ _ _ _ _ _ _ (by simp)⟩
def z0p(P:Program)(gl:Globs)(o:Oper)(sz:Nat)(x:Opd)(lo hi mx:Option Opd):Bool:=
 match o.op with
 |.slice t a l h m=>okX gl a x&&okX? gl l lo&&okX? gl h hi&&okX? gl m mx&&(match zrm P t with|some el=>zq2 P el==some sz|none=>false)
 |_=>false
theorem zzo [Clk]{lo hi mx:Option Operand}{lo' hi' mx':Option Opd}{n l h:Nat}(hs:Sim oc gl s)(he:zc9 s e A.tmps)(ol:okX? gl lo lo'=true)(oh:okX? gl hi hi'=true)(om:okX? gl mx mx'=true)
  (hb:zdd n (lo'.map (·.ev e)) (hi'.map (·.ev e))=some (l,h))(hmx:(mx'.map (·.ev e)).isNone=true\/((hi'.map (·.ev e)).isSome=true/\(mx'.map (·.ev e)).bind asI=(hi'.map (·.ev e)).bind asI))
  (cap:Nat)(hcap:n<=cap)(w:World):
  ∃m,(Instr.sliceBounds true n cap (lo.map A.eval) (hi.map A.eval) (mx.map A.eval)).run P w=.ok (l,h,m) w/\l<=h/\h<=n/\h<=m/\m<=cap:=by
 cases mx with
 |none=>
  obtain⟨k1,k2,k3⟩:=zx0 (P:=P) hs he ol oh hb true cap hcap w;exact⟨cap,k1,k2,k3,by omega,Nat.le_refl _⟩
 |some ma=>
  cases mx' with
  |none=>simp[okX?]at om
  |some m'=>
   simp only[okX?]at om;simp only[Option.map_some,Option.isNone_some,Bool.false_eq_true,false_or,Option.bind_some]at hmx;obtain⟨h1,h2⟩:=hmx;obtain⟨k1,k2,k3⟩:=zx0 (P:=P) hs he ol oh hb true cap hcap w;cases hi' with
   |none=>simp at h1
   |some hx=>
    cases hi with
    |none=>simp[okX?]at oh
    |some ha=>
     simp only[okX?]at oh;simp only[Option.map_some,Option.bind_some]at h2 hb
     -- the second bound's number
     unfold zdd at hb;simp only at hb;cases hh:asI (hx.ev e)with
     |none=>rw[hh]at hb;cases hb
     |some hv=>
      rw[hh]at hb h2;obtain⟨q1,hq1⟩:=ztq (zbg hs he oh) hh;obtain⟨q2,hq2⟩:=ztq (zbg hs he om) h2
      split at hb
      ·rename_i hv' lv e1 e2;injection e1 with e1
       subst e1
       split at hb
       ·rename_i hr;obtain⟨r1,r2,r3,r4⟩:=hr;simp only[Option.some.injEq,Prod.mk.injEq]at hb;obtain⟨rfl,rfl⟩:=hb;refine⟨hv.toNat,?_,by omega,by omega,Nat.le_refl _,by omega⟩;have b1:∀c,(Instr.sliceBound (A.eval ma) cap c).run P w=.ok hv.toNat w:=λc=>zeh hq2 r1 (by omega) c w
        have b2:∀c,(Instr.sliceBound (A.eval ha) hv.toNat c).run P w=.ok hv.toNat w:=λc=>zeh hq1 r1 (by omega) c w
        cases lo with
        |none=>
         cases lo'<;>simp[okX?]at ol;simp at e2;subst e2;simp[Instr.sliceBounds,b1,b2]
        |some la=>
         cases lo' with
         |none=>simp[okX?]at ol
         |some lx=>
          simp only[okX?]at ol;obtain⟨q3,hq3⟩:=ztq (zbg hs he ol) e2;have b3:∀c,(Instr.sliceBound (A.eval la) hv.toNat c).run P w=.ok lv.toNat w:=λc=>zeh hq3 r3 (by omega) c w
          simp[Instr.sliceBounds,b1,b2,b3]
       cases hb
      cases hb
theorem z41{w:World}{el sz n b capp:Nat}{v:Value}{ys:List Value}(h:w.ownsRow 0 el sz v n ys)(hp:v=.slice (some ⟨b,0,none⟩) n capp):n<=capp:=by
 rcases h.2 with⟨hp',_⟩|⟨g,cap,cur,hp',_,_,hnc,_⟩
 ·rw[hp]at hp';injection hp' with e1;cases e1
 rw[hp]at hp';injection hp' with _ _ e;omega
theorem yg9 [Clk](hs:Sim oc gl s)(he:zc9 s e A.tmps){sz:Nat}{x:Opd}{lo hi mx:Option Opd}{v:V}(ok:z0p P gl o sz x lo hi mx=true)
  (h:zwf sz s.m (x.ev e) (lo.map (·.ev e)) (hi.map (·.ev e)) (mx.map (·.ev e))=some v):ze9 P oc gl s A o v s.m:=by
 unfold z0p at ok;split at ok<;>try cases ok
 rename_i t a l' h' m' ho;simp only[Bool.and_eq_true]at ok;obtain⟨⟨⟨⟨okx,ol⟩,oh⟩,om⟩,hty⟩:=ok;split at hty<;>try cases hty
 rename_i el hel;have hsz:zq2 P el=some sz:=by simpa using hty
 have hu:=zi7 hel;have h1:=zbg hs he okx;generalize x.ev e=vx at h1 h
 -- the run, once the slice is known
 have fin:∀(ad:Option Addr)(n cap l hh m:Nat),A.eval a=.slice ad n cap->(Instr.sliceBounds true n cap (l'.map A.eval) (h'.map A.eval) (m'.map A.eval)).run P s.w=.ok (l,hh,m) s.w->
   (execOp A.eval o).run P s.w=.ok (.value (.slice (if m=l then ad else ad.map (·.add (l*sz))) (hh-l) (m-l))) s.w:=by
  intro ad n cap l hh m ha hr;simp[execOp,ho,Instr.sliceAt,Instr.slice,run_underlying hu,ha,hr,zhz hsz]
 unfold zwf at h
 split at h
 ·rename_i n cs;obtain⟨ad,cap,ha,hn0,hc⟩:=h1
  split at h
  ·rename_i l hh hb
   split at h
   ·rename_i hm;obtain rfl:=Option.some.inj h;obtain⟨m,hr,k1,k2,k3,k4⟩:=zzo (P:=P) hs he ol oh om hb (by simpa using hm) cap hn0 s.w;refine zbq hs (fin ad n cap l hh m ha hr) ?_
    rcases hc with⟨rfl,rfl⟩|⟨b,q,rfl,hc⟩
    ·exact⟨_,_,rfl,by omega,.inl ⟨by omega,by simp[win]⟩⟩
    by_cases hml:m=l
    ·have:hh-l=0:=by omega
     exact⟨_,_,rfl,by omega,.inl ⟨this,by simp[win,this]⟩⟩
    refine⟨_,_,rfl,by omega,.inr ⟨b,q+l*sz,by rw[if_neg hml];simp[zhe],?_⟩⟩;exact CR.take _ _ _ (CR.drop _ _ _ hc)
   cases h
  cases h
 ·obtain⟨ad,ha⟩:=h1
  split at h
  ·rename_i p hb;obtain⟨l,hh⟩:=p
   split at h
   ·rename_i hm;obtain rfl:=Option.some.inj h;obtain⟨m,hr,k1,k2,k3,k4⟩:=zzo (P:=P) hs he ol oh om hb (.inl (by simpa using hm)) 0 (Nat.le_refl 0) s.w;have e1:hh-l=0:=by omega
    have e2:m-l=0:=by omega
    have hf:=fin ad 0 0 l hh m ha hr;rw[e1,e2]at hf;exact zbq hs hf ⟨_,rfl⟩
   cases h
  cases h
 ·rename_i i off len top
  split at h
  ·rename_i wr ty sz' n xs hl
   split at h
   ·rename_i hcond;obtain⟨rfl,hle,rfl⟩:=hcond
    split at h
    ·rename_i l hh hb
     split at h
     ·rename_i hm
      -- the row, and the slice's place in it
      have h2:=h1.2;rw[hl]at h2;obtain⟨hz,ys,hown,hd,him⟩:=hs.objs i _ hl;have hlen:xs.length=n*sz':=(DRs.length _ _ hd).trans hown.1
      have shape:∃ad cap,A.eval a=.slice ad len cap/\len<=cap/\((len=0/\off=n)\/∃b capp,s.φ i=.slice (some ⟨b,0,none⟩) n capp/\ad=some ⟨b,off*sz',none⟩/\(off<n/\off+cap=capp)/\n<=capp):=by
       rcases h2.2 rfl with⟨rfl,rfl,hx⟩|⟨hne,b,cap,capp,hp,_,hoc,hlc,hx⟩|⟨hne,hon,rfl,ad,c,hx⟩
       ·rcases hown.2 with⟨hp,h0⟩|⟨g,cap,cur,hp,_,_,hnc,_⟩
        ·exact⟨none,0,by rw[h0];exact hx.trans hp,by omega,.inl ⟨h0,h0.symm⟩⟩
        by_cases h0:len=0
        ·exact⟨_,cap,hx.trans hp,hnc,.inl ⟨h0,h0.symm⟩⟩
        exact⟨_,cap,hx.trans hp,hnc,.inr ⟨g,cap,hp,by simp,by omega,hnc⟩⟩
       ·exact⟨_,cap,hx,hlc,.inr ⟨b,capp,hp,rfl,hoc,z41 hown hp⟩⟩
       exact⟨ad,c,hx,Nat.zero_le _,.inl ⟨rfl,hon⟩⟩
      obtain⟨ad,cap,ha,hlc,hsh⟩:=shape;obtain⟨m,hr,k1,k2,k3,k4⟩:=zzo (P:=P) hs he ol oh om hb (.inl (by simpa using hm)) cap hlc s.w;have hrun:=fin ad len cap l hh m ha hr
      have hm':m=cap:=by
       have hmx:(m'.map A.eval)=none:=by
        cases mx with
        |none=>cases m'<;>simp[okX?]at om;rfl
        |some q=>simp at hm
       have hc2:=zx0 (P:=P) hs he ol oh hb true cap hlc s.w;rw[hmx]at hr;rw[hc2.1]at hr;simp only[Result.ok.injEq,Prod.mk.injEq,and_true,true_and]at hr;exact hr.symm
      split at h
      ·rename_i hwr;obtain rfl:=Option.some.inj h;refine zbq hs hrun ⟨rfl,?_⟩;show yme _ _ _ _ _ (look s.m i);rw[hl];refine⟨Nat.le_refl _,λ_=>?_⟩
       by_cases hwhole:off+l=0/\hh-l=n
       ·refine .inl ⟨hwhole.1,hwhole.2,?_⟩;have e1:off=0:=by omega
        have e2:l=0:=by omega
        have e3:hh=n:=by omega
        have e4:len=n:=by omega
        rcases h2.2 rfl with⟨_,_,hx⟩|⟨hne,_⟩|⟨hne,_⟩
        ·--the cut of the whole is the slice itself
         rw[<-hx,ha,e2,e3,e4,hm']
         by_cases hc0:cap=0
         ·simp[hc0]
         rw[if_neg hc0];cases ad with
         |none=>simp
         |some ad=>simp[Addr.add]
        ·exact absurd ⟨e1,e4⟩ hne
        exact absurd ⟨e1,e4⟩ hne
       by_cases hoff:off+l<n
       ·rcases hsh with h0|⟨b,capp,hp,rfl,hoc,hnc⟩
        ·omega
        refine .inr (.inl ⟨hwhole,b,m-l,capp,hp,by omega,by omega,by omega,?_⟩);rw[if_neg (by omega)];simp[zhe,Nat.add_mul]
       exact .inr (.inr ⟨hwhole,by omega,by omega,_,_,by rw[show hh-l=0 by omega]⟩)
      rename_i hwr;obtain rfl:=Option.some.inj h;have hwr:wr=false:=by simpa using hwr
      subst hwr;refine zbq hs hrun ?_
      by_cases hz0:hh-l=0
      ·exact⟨_,_,rfl,by omega,.inl ⟨hz0,by simp[win,hz0]⟩⟩
      rcases hsh with h0|⟨b,capp,hp,rfl,hoc,_⟩
      ·omega
      refine⟨_,_,rfl,by omega,.inr ⟨b,(off+l)*sz',by rw[if_neg (by omega)];simp[zhe,Nat.add_mul],?_⟩⟩;have hcl:=zlt hown hp
      have hcr:CR s.w s.Im b 0 xs:=CR.mk xs ys 0 hd (λj v hj=>by rw[Nat.zero_add];exact hcl j v hj) (λj hj=>by
       rw[Nat.zero_add];refine(him b (by rw[hp];rfl) j).2 ⟨rfl,?_⟩
       have:=hown.1;omega)
      have:=CR.drop ((off+l)*sz') xs 0 hcr;rw[Nat.zero_add]at this;exact CR.take _ _ _ this
     cases h
    cases h
   cases h
  cases h
 cases h
theorem yd3 [Clk](hs:Sim oc gl s)(he:zc9 s e A.tmps){sz n:Nat}{x hi mx:Opd}{cs:List D}(ok:z0p P gl o sz x none (some hi) (some mx)=true)(hx:x.ev e=.d (.list n cs))(h1:asI (hi.ev e)=some (n:Int))(h2:asI (mx.ev e)=some (n:Int)):ze9 P oc gl s A o (.cl n cs) s.m:=by
 unfold z0p at ok;split at ok<;>try cases ok
 rename_i t a l' h' m' ho;simp only[Bool.and_eq_true]at ok;obtain⟨⟨⟨⟨okx,ol⟩,oh⟩,om⟩,hty⟩:=ok;split at hty<;>try cases hty
 rename_i el hel;have hsz:zq2 P el=some sz:=by simpa using hty
 have hu:=zi7 hel;have hv:=zbg hs he okx;rw[hx]at hv;obtain⟨ad,cap,ha,hle,hc⟩:=hv
 have hr:(Instr.sliceBounds true n cap (l'.map A.eval) (h'.map A.eval) (m'.map A.eval)).run P s.w=.ok (0,n,n) s.w:=by
  cases l' with
  |some _=>simp[okX?]at ol
  |none=>
   cases h' with
   |none=>simp[okX?]at oh
   |some hx=>
    cases m' with
    |none=>simp[okX?]at om
    |some ma=>
     simp only[okX?]at oh om;obtain⟨q1,hq1⟩:=ztq (zbg hs he oh) h1;obtain⟨q2,hq2⟩:=ztq (zbg hs he om) h2
     have b1:∀c,(Instr.sliceBound (A.eval ma) cap c).run P s.w=.ok n s.w:=λc=>by
      have:=zeh (P:=P) (y:=cap) hq2 (by omega) (by omega) c s.w;simpa using this
     have b2:∀c,(Instr.sliceBound (A.eval hx) n c).run P s.w=.ok n s.w:=λc=>by
      have:=zeh (P:=P) (y:=n) hq1 (by omega) (by omega) c s.w;simpa using this
     simp[Instr.sliceBounds,b1,b2]
 have hf:(execOp A.eval o).run P s.w=.ok (.value (.slice ad n n)) s.w:=by
  simp[execOp,ho,Instr.sliceAt,Instr.slice,run_underlying hu,ha,hr,zhz hsz]
  rcases hc with⟨rfl,_⟩|⟨b,o,rfl,_⟩
  ·cases ad<;>simp
  by_cases h0:n=0
  ·simp[h0]
  simp[h0,zhe]
 exact zbq hs hf ⟨ad,rfl,hc⟩
theorem ya1{e:TypeId}{r:zd6}(h:ytf P e r=true):r.t=e/\0<r.sz/\∃i z,P.info? e=some i/\i.size=r.sz/\i.bytes=r.by_/\i.zero=some z/\z.cells.size=r.sz:=by
 unfold ytf at h;simp only[Bool.and_eq_true,beq_iff_eq,decide_eq_true_eq]at h;obtain⟨⟨h1,h2⟩,h3⟩:=h
 split at h3
 ·rename_i i hi;simp only[Bool.and_eq_true,beq_iff_eq]at h3;obtain⟨⟨h4,h5⟩,h6⟩:=h3
  split at h6
  ·rename_i z hz;exact⟨h1,h2,i,z,hi,h4,h5,hz,by simpa using h6⟩
  cases h6
 cases h3
theorem zza{n b:Nat}(h:z5f n b=true):n*b<=140737488355328/\n<=140737488355328:=by
 simpa[z5f]using h
theorem DRs.replicate{w:World}{Im:Nat->Nat->Prop}{zero:List D}{zs:List Value}(h:DRs w Im zero zs):∀n:Nat,DRs w Im (List.replicate n zero).flatten (List.replicate n zs).flatten
 |0=>rfl
 |n+1=>by
  simp only[List.replicate_succ,List.flatten_cons];exact DRs.append _ _ _ _ h (DRs.replicate h n)
theorem yie(l:List Value)(hl:0<l.length):∀(n j:Nat),(List.replicate n l).flatten[j]?=if j<n*l.length then l[j%l.length]? else none
 |0,j=>by simp
 |n+1,j=>by
  simp only[List.replicate_succ,List.flatten_cons,List.getElem?_append,Nat.add_mul,Nat.one_mul]
  split
  ·rename_i h;rw[Nat.mod_eq_of_lt h,if_pos (by omega)]
  rename_i h;rw[yie l hl n,Nat.mod_eq_sub_mod (by omega:j>=l.length)]
  by_cases h2:j-l.length<n*l.length
  ·rw[if_pos h2,if_pos (by omega)]
  rw[if_neg h2,if_neg (by omega)]
theorem z6n(zs:Array Value)(n:Nat)(h:0<zs.size):(madeCells zs (n*zs.size)).toList=(List.replicate n zs.toList).flatten:=by
 apply List.ext_getElem?;intro j;rw[yie _ (by simpa using h)];simp only[madeCells,Array.toList_map,Array.toList_range,List.getElem?_map,Array.length_toList]
 split
 ·rename_i hj;rw[List.getElem?_range hj];have hm:j%zs.size<zs.size:=Nat.mod_lt _ h;simp[hm]
 rename_i hj;rw[List.getElem?_eq_none (by simp;omega)]
 rfl
theorem yh4(hs:Sim oc gl s){v:V}{x:Value}{k:Nat}{ds:List D}(hv:VR s v x)(h:z30 s.m v=some (k,ds)):
  ∃ad c xs,x=.slice ad k c/\DRs s.w s.Im ds xs/\((k=0/\ds=[])\/∃b q,ad=some ⟨b,q,none⟩/\∀j v,xs[j]?=some v->s.w.cell? ⟨b,q+j,none⟩=some v):=by
 unfold z30 at h
 split at h
 ·rename_i n cs;simp only[Option.some.injEq,Prod.mk.injEq]at h;obtain⟨rfl,rfl⟩:=h;obtain⟨ad,cap,rfl,_,hc⟩:=hv
  rcases hc with⟨rfl,rfl⟩|⟨b,q,rfl,hc⟩
  ·exact⟨ad,cap,[],rfl,rfl,.inl ⟨rfl,rfl⟩⟩
  obtain⟨xs,h1,h2⟩:=CR.cells cs q hc;exact⟨_,cap,xs,rfl,h1,.inr ⟨b,q,rfl,h2⟩⟩
 ·simp only[Option.some.injEq,Prod.mk.injEq]at h;obtain⟨rfl,rfl⟩:=h;obtain⟨ad,rfl⟩:=hv;exact⟨ad,0,[],rfl,rfl,.inl ⟨rfl,rfl⟩⟩
 ·rename_i i off len top
  split at h
  ·rename_i wr t sz n xs hl
   split at h
   ·rename_i hc;obtain⟨rfl,hle⟩:=hc;simp only[Option.some.injEq,Prod.mk.injEq]at h;obtain⟨rfl,rfl⟩:=h;have h2:=hv.2;rw[hl]at h2;obtain⟨hz,ys,hown,hd,him⟩:=hs.objs i _ hl;have hlen:xs.length=n*sz:=(DRs.length _ _ hd).trans hown.1
    rcases h2.2 rfl with⟨rfl,rfl,hx⟩|⟨hne,b,cap,capp,hp,_,_,hlc,hx⟩|⟨hne,_,rfl,a,c,hx⟩
    ·simp only[and_self,if_true]
     rcases hown.2 with⟨hp,h0⟩|⟨g,cap,cur,hp,_⟩
     ·refine⟨none,0,ys,by rw[h0];exact hx.trans hp,hd,.inl ⟨h0,List.eq_nil_of_length_eq_zero (by rw[hlen,h0];simp)⟩⟩
     exact⟨_,_,ys,hx.trans hp,hd,.inr ⟨g,0,rfl,λj v hj=>by rw[Nat.zero_add];exact zlt hown hp j v hj⟩⟩
    ·refine⟨_,_,(if off=0/\len=n then ys else win ys (off*sz) (len*sz)),hx,?_,.inr ⟨b,off*sz,rfl,λj v hj=>?_⟩⟩
     ·split
      ·exact hd
      exact DRs.take _ _ _ (DRs.drop _ _ _ hd)
     have hcl:=zlt hown hp
     split at hj
     ·rename_i hc0;rw[hc0.1,Nat.zero_mul,Nat.zero_add];exact hcl j v hj
     simp only[win,List.getElem?_take,List.getElem?_drop]at hj
     split at hj
     ·exact hcl _ v hj
     cases hj
    refine⟨a,c,[],hx,?_,.inl ⟨rfl,?_⟩⟩
    ·split
     ·rename_i hc0;have:xs=[]:=List.eq_nil_of_length_eq_zero (by rw[hlen,<-hc0.2];simp);subst this;rfl
     simp[win];rfl
    split
    ·rename_i hc0;exact List.eq_nil_of_length_eq_zero (by rw[hlen,<-hc0.2];simp)
    simp[win]
   cases h
  cases h
 cases h
theorem zpe [Clk]{t ty el:TypeId}{i:TypeInfo}(w:World)(ht:P.underlying t=some (.slice el))(hi:P.info? el=some i)(a:Option Addr)(n c:Nat)(hnc:n<=c)(ad:Option Addr)(k:Nat):
  (Builtin.append_ #[t,t] ty #[.slice a n c,.slice ad 0 k]).run P w=.ok (.slice a n c) w:=by
 cases ad with
 |none=>cases a<;>simp[Builtin.append_,run_underlying ht,sizeOf,typeInfo,hi,Builtin.lenOf,Builtin.firstCells,hnc,storeCells]
 |some ad=>cases a<;>simp[Builtin.append_,run_underlying ht,sizeOf,typeInfo,hi,Builtin.lenOf,Builtin.firstCells,loadCells,loadCellsFrom,hnc,storeCells]
theorem ykh [Clk](w:World)(t ty el:TypeId)(i:TypeInfo)(z:Value)(sz by_:Nat)(ht:P.underlying t=some (.slice el))(hi:P.info? el=some i)(hz:i.zero=some z)
  (hsize:i.size=sz)(hby:i.bytes=by_)(hzs:z.cells.size=sz)
  (v:Value)(n:Nat)(ys:List Value)(hown:w.ownsRow 0 el sz v n ys)
  (ad:Option Addr)(k c:Nat)(xs:List Value)(hl:xs.length=k*sz)(hx:(k=0/\xs=[])\/∃b q,ad=some ⟨b,q,none⟩/\∀j v,xs[j]?=some v->w.cell? ⟨b,q+j,none⟩=some v)
  (h1:∀u∈xs,u.oneCell'=true)(hbytes:(n+k)*by_<=140737488355328)(hlen:n+k<=140737488355328):
  ∃v' w',(Builtin.append_ #[t,t] ty #[v,.slice ad k c]).run P w=.ok v' w'/\w'.ownsRow 0 el sz v' (n+k) (ys++xs)/\w'.os=w.os/\w'.tape=w.tape/\w'.output=w.output/\w.heap.size<=w'.heap.size/\
   (∀b,b<w.heap.size->v.ownBlock≠some b->w'.heap[b]?=w.heap[b]?)/\(∀g,v.ownBlock=some g->∀j,j<n*sz->w'.cell? ⟨g,j,none⟩=w.cell? ⟨g,j,none⟩)/\
   (v'.ownBlock=v.ownBlock\/v'.ownBlock=some w.heap.size)/\(k=0->v'=v):=by
 subst hsize;subst hby;have hll:(ys++xs).length=(n+k)*i.size:=by rw[List.length_append,hown.1,hl,Nat.add_mul]
 rcases Nat.eq_zero_or_pos k with hk|hk
 ·subst hk;have hxs:xs=[]:=List.eq_nil_of_length_eq_zero (by simpa using hl);subst hxs;refine⟨v,w,?_,by simpa using hown,rfl,rfl,rfl,Nat.le_refl _,λ_ _ _=>rfl,λ_ _ _ _=>rfl,.inl rfl,λ_=>rfl⟩
  rcases hown.2 with⟨rfl,rfl⟩|⟨g,cap,cur,rfl,_,_,hnc,_⟩
  ·exact zpe w ht hi _ _ _ (Nat.le_refl _) ad c
  exact zpe w ht hi _ _ _ hnc ad c
 obtain⟨b,q,rfl,hcell⟩:∃b q,ad=some ⟨b,q,none⟩/\∀j v,xs[j]?=some v->w.cell? ⟨b,q+j,none⟩=some v:=by
  rcases hx with⟨h0,_⟩|h
  ·omega
  exact h
 have hnews:∀j v,xs[j]?=some v->w.cell? ((⟨b,q,none⟩:Addr).add j)=some v:=λj v hj=>by rw[zhe];exact hcell j v hj
 have hcm:n+k<=maxLen:=by simp only[maxLen];omega
 have grown:∀(old:Nat),old<n+k->
   (w.drew.alloc (.cells (ys.toArray++xs.toArray++Builtin.zeroCells z.cells (grownCap w (n+k) old el-(n+k))) el)).ownsRow 0 el i.size
    (.slice (some ⟨w.heap.size,0,none⟩) (n+k) (grownCap w (n+k) old el)) (n+k) (ys++xs):=by
  intro old ho;have hge:=grownCap_ge w (n+k) old el;have hcm2:grownCap w (n+k) old el<=maxLen:=grownCap_le_maxLen w (n+k) old el hcm
  refine⟨hll,.inr ⟨w.heap.size,_,_,rfl,Nat.zero_le _,heap_alloc_new w.drew _,hge,hcm2,?_,?_⟩⟩
  ·simp only[Array.size_append,List.size_toArray,size_zeroCells,hzs,hown.1,hl,<-Nat.add_mul];congr 1;omega
  simp only[Array.toList_append,List.append_assoc];rw[<-List.append_assoc,<-hll];exact List.take_left
 rcases hown.2 with⟨rfl,rfl⟩|⟨g,cap,cur,rfl,hbg,hg,hnc,hcm3,hcs,htake⟩
 ·have hy:ys=[]:=List.eq_nil_of_length_eq_zero (by simpa using hown.1);subst hy;have hr:=run_append_nil (P:=P) w t ty el i z ht hi hz ⟨b,q,none⟩ k c xs hl hnews hk (by omega) (by have hb:=hbytes;simp only[Nat.zero_add]at hb;omega);have hgr:=grown 0 (by omega);simp only[Nat.zero_add,List.nil_append,Array.empty_append]at hgr⊢;exact⟨_,_,hr,hgr,rfl,rfl,rfl,by simp,λb hb _=>heap_alloc_old w.drew _ b hb,λg hg=>by simp[Value.ownBlock]at hg,.inr rfl,λh0=>by omega⟩
 by_cases hroom:n+k<=cap
 ·have hfit:n*i.size+xs.length<=cur.size:=by rw[hl,hcs,<-Nat.add_mul];exact Nat.mul_le_mul_right _ hroom
  have hr:=run_append_room (P:=P) w t ty el i ht hi g n cap cur hg ⟨b,q,none⟩ k c xs hl hnews h1 hroom hfit
  refine⟨_,_,hr,⟨hll,.inr ⟨g,cap,_,rfl,hbg,setRow_heap w g cur _ el _ hg,hroom,hcm3,?_,?_⟩⟩,rfl,rfl,rfl,by simp,λk2 _ hk2=>setRow_other w g k2 _ (λe=>hk2 (by simp[Value.ownBlock,e])),λg2 hg2 j hj=>?_,.inl rfl,λh0=>by omega⟩
  ·simp only[List.size_toArray,List.length_append,List.length_take,List.length_drop,Array.length_toList];omega
  ·rw[htake,<-hll];exact List.take_left
  simp[Value.ownBlock]at hg2;subst hg2;rw[cell_of_row _ g j _ el (0,0) (setRow_heap w g cur _ el _ hg),cell_of_row _ g j cur el (0,0) hg];simp only[List.getElem?_toArray,List.append_assoc];rw[List.getElem?_append_left (by simp;omega),List.getElem?_take,if_pos hj];simp
 have holds:∀j u,ys[j]?=some u->w.cell? ((⟨g,0,none⟩:Addr).add j)=some u:=hown.cells (g:=g) rfl
 have hr:=run_append_grow (P:=P) w t ty el i z ht hi hz ⟨g,0,none⟩ n cap ys hown.1 holds ⟨b,q,none⟩ k c xs hl hnews (by omega) (by omega) (growslice_fits (by omega) hbytes);have hgr:=grown cap (by omega)
 exact⟨_,_,hr,hgr,rfl,rfl,rfl,by simp,λb hb _=>heap_alloc_old w.drew _ b hb,λg2 hg2 j _=>World.cell?_of_block (heap_alloc_old w.drew _ _ (by
  simp[Value.ownBlock]at hg2;subst hg2;exact(Array.getElem?_eq_some_iff.1 hg).1)),.inr rfl,λh0=>by omega⟩
def zu3(P:Program)(gl:Globs)(o:Oper)(r:zd6)(a x:Opd):Bool:=
 match bi o.op with
 |some (.append,[a',x'],[t,t'])=>okX gl a' a&&okX gl x' x&&t==t'&&(match zrm P t with|some el=>ytf P el r|none=>false)
 |_=>false
theorem zm3{w:World}{el sz n:Nat}{v:Value}{ys:List Value}(h:w.ownsRow 0 el sz v n ys):blk v=v.ownBlock/\one v:=by
 rcases h.2 with⟨rfl,_⟩|⟨g,cap,cur,rfl,_⟩
 ·exact⟨rfl,rfl⟩
 exact⟨rfl,rfl⟩
theorem ydy [Clk](hs:Sim oc gl s)(he:zc9 s e A.tmps)(cx:Cx)(slot:Nat){r:zd6}{a x:Opd}{v:V}{m':Mem}(ok:zu3 P gl o r a x=true)(h:zwj cx slot r s.m (a.ev e) (x.ev e)=some (v,m')):
  ze9 P oc gl s A o v m':=by
 unfold zu3 at ok;split at ok
 rotate_left
 ·cases ok
 rename_i a' x' t t' ho;simp only[Bool.and_eq_true,beq_iff_eq]at ok;obtain⟨⟨⟨oka,okx⟩,rfl⟩,hty⟩:=ok;split at hty<;>try cases hty
 rename_i el hel;obtain⟨hrt,hz,i,z,hi,h4,h5,hzz,h6⟩:=ya1 hty;have hu:=zi7 hel;have ha:=zbg hs he oka;have hx:=zbg hs he okx;generalize a.ev e=va at ha h;generalize x.ev e=vx at hx h;obtain⟨cn,hrun⟩:=z01 (P:=P) (A:=A) ho s.w;unfold zwj zp8 at h;cases hel2:z30 s.m vx with
 |none=>rw[hel2]at h;cases h
 |some p=>
  obtain⟨k,ds⟩:=p;rw[hel2]at h;obtain⟨ad,c,xs,hxv,hd,hxc⟩:=yh4 hs hx hel2;simp only at h
  have hxc':∀ds',ds=ds'->(k=0/\xs=[])\/∃b q,ad=some ⟨b,q,none⟩/\∀j v,xs[j]?=some v->s.w.cell? ⟨b,q+j,none⟩=some v:=by
   intro ds' _
   rcases hxc with⟨h0,h1⟩|h
   ·subst h1;simp only[DRs]at hd;exact .inl ⟨h0,hd⟩
   exact .inr h
  split at h
  ·rename_i j off len top
   split at h
   ·rename_i wr ty sz n rs hl
    split at h
    ·rename_i hc;obtain⟨rfl,rfl,rfl,rfl,rfl,hdl,hroom⟩:=hc;simp only[Option.some.injEq,Prod.mk.injEq]at h;obtain⟨rfl,rfl⟩:=h;have h2:=ha.2;rw[hl]at h2;obtain⟨hz2,ys,hown,hdr,him⟩:=hs.objs j _ hl
     have hav:A.eval a'=s.φ j:=by
      rcases h2.2 rfl with⟨_,_,hx⟩|⟨hne,_⟩|⟨hne,_⟩
      ·exact hx
      ·exact absurd ⟨rfl,rfl⟩ hne
      exact absurd ⟨rfl,rfl⟩ hne
     obtain⟨hr1,hr2⟩:=zza hroom;have hxl:xs.length=k*r.sz:=(DRs.length _ _ hd).symm.trans hdl;have hel':el=r.t:=hrt.symm;obtain⟨v',w',hr,hown',hos,htp,hout,hsize,hfar,hnear,hblk,hk0⟩:=ykh (P:=P) s.w t o.type el i z r.sz r.by_ hu hi hzz h4 h5 h6 (s.φ j) len ys (by rw[hel'];exact hown) ad k c xs hxl (hxc' _ rfl) (DRs.ones _ _ hd) hr1 hr2;obtain⟨hb1,_⟩:=zm3 hown;obtain⟨hb2,hone⟩:=zm3 hown'
     have hlt':∀b,blk v'=some b->b<w'.heap.size:=by
      intro b hb;rw[hb2]at hb;exact(hown'.lt b hb).2
     obtain⟨k1,k2⟩:=hs.change j (.row wr r.t r.sz (len+k) (rs++ds)) v' w' (λb q=>s.Im b q\/(wr=false/\blk v'=some b/\q<(len+k)*r.sz)) hos (Tk.of htp (z5h _ _ _ _ _ hr)) hout hsize
      (λb hb hne=>hfar b hb (by rw[<-hb1];exact hne ⟨_,hl,by simp⟩)) (λ_ _ h=>.inl h)
      (λb q hi=>by
       by_cases hbo:(s.φ j).ownBlock=some b
       ·have:=((him b hbo q).1 hi).2;exact hnear b hbo q this
       exact World.cell?_of_block (hfar b (hs.imlt b q hi) hbo))
      (λb q h=>h.imp id (λh=>h.2.1))
      (λb q h=>h.elim (λh=>Nat.lt_of_lt_of_le (hs.imlt b q h) hsize) (λh=>hlt' b h.2.1))
      (λb hb=>by
       rw[hb2]at hb
       rcases hblk with e1|e1
       ·exact .inr ⟨⟨_,hl,by simp⟩,by rw[hb1,<-e1];exact hb⟩
       rw[e1]at hb;cases hb;exact .inl (Nat.le_refl _))
      (λo2 ho2=>by
       rw[hl]at ho2;cases ho2
       exact⟨λh=>h,rfl,rfl,Nat.le_add_right _ _,λe=>hk0 (by omega)⟩)
      (λhE=>⟨hz2,ys++xs,by rw[<-hel'];exact hown',DRs.append _ _ _ _ (DRs.ext hE.im hE.keep rs _ hdr) (DRs.ext hE.im hE.keep ds _ hd),λb hb q=>by
       constructor
       ·rintro(h|⟨h1,h2,h3⟩)
        ·rcases hblk with e1|e1
         ·have hbo:(s.φ j).ownBlock=some b:=by rw[<-e1];exact hb
          have:=(him b hbo q).1 h;refine⟨this.1,?_⟩;rw[Nat.add_mul];omega
         rw[e1]at hb;cases hb;exact absurd (hs.imlt _ q h) (Nat.lt_irrefl _)
        exact⟨h1,h3⟩
       rintro⟨h1,h2⟩
       exact .inr ⟨h1,by rw[hb2];exact hb,h2⟩⟩)
     refine⟨_,v',?_,k1,k2,rfl,zji s j v' hone _ _ _ _ _ _ _ _ (by simp)⟩;rw[hrun];simp only[List.map_cons,List.map_nil,builtin,hav,hxv];simp[hr]
    cases h
   cases h
  ·split at h
   ·rename_i hc;obtain⟨hk,hdl,hroom⟩:=hc;simp only[Option.some.injEq,Prod.mk.injEq]at h;obtain⟨rfl,rfl⟩:=h;obtain⟨a0,hav⟩:=ha;obtain⟨hr1,hr2⟩:=zza hroom;have hxl:xs.length=k*r.sz:=(DRs.length _ _ hd).symm.trans hdl;have hel':el=r.t:=hrt.symm
    obtain⟨b,q,rfl,hcell⟩:∃b q,ad=some ⟨b,q,none⟩/\∀j v,xs[j]?=some v->s.w.cell? ⟨b,q+j,none⟩=some v:=by
     rcases hxc' _ rfl with⟨h0,_⟩|h
     ·exact absurd h0 hk
     exact h
    have hnews:∀j v,xs[j]?=some v->s.w.cell? ((⟨b,q,none⟩:Addr).add j)=some v:=λj v hj=>by rw[zhe];exact hcell j v hj
    -- whatever address it had, a new row is made
    obtain⟨cap,hge,hcm,hr⟩:∃cap,k<=cap/\cap<=maxLen/\(Builtin.append_ #[t,t] o.type #[.slice a0 0 0,.slice (some ⟨b,q,none⟩) k c]).run P s.w=
      .ok (.slice (some ⟨s.w.heap.size,0,none⟩) k cap) (s.w.drew.alloc (.cells (xs.toArray++Builtin.zeroCells z.cells (cap-k)) el)):=by
     have hcmk:k<=maxLen:=by simp only[maxLen];omega
     cases a0 with
     |none=>
      exact⟨_,grownCap_ge s.w k 0 el,grownCap_le_maxLen s.w k 0 el hcmk,run_append_nil (P:=P) s.w t o.type el i z hu hi hzz ⟨b,q,none⟩ k c xs (by rw[h4];exact hxl) hnews (by omega) (by omega) (by rw[h5];omega)⟩
     |some a1=>
      have:=run_append_grow (P:=P) s.w t o.type el i z hu hi hzz a1 0 0 [] (by simp) (by simp) ⟨b,q,none⟩ k c xs (by rw[h4];exact hxl) hnews (by omega) (by omega) (growslice_fits (by omega) (by rw[h5];simpa using hr1));simp only[Nat.zero_add,Array.empty_append]at this;exact⟨_,grownCap_ge s.w k 0 el,grownCap_le_maxLen s.w k 0 el hcmk,this⟩
    have hcs:(xs.toArray++Builtin.zeroCells z.cells (cap-k)).size=cap*r.sz:=by
     simp only[Array.size_append,List.size_toArray,size_zeroCells,h6,hxl,<-Nat.add_mul];congr 1;omega
    obtain⟨k1,k2⟩:=hs.change (newId cx slot s.m) (.row r.wr r.t r.sz k ds) (.slice (some ⟨s.w.heap.size,0,none⟩) k cap) (s.w.drew.alloc (.cells (xs.toArray++Builtin.zeroCells z.cells (cap-k)) el))
     (λb q=>s.Im b q\/(r.wr=false/\b=s.w.heap.size/\q<k*r.sz)) rfl Tk.of rfl (by simp) (λb hb _=>heap_alloc_old s.w.drew _ _ hb) (λ_ _ h=>.inl h)
     (λb q hi=>World.cell?_of_block (heap_alloc_old s.w.drew _ _ (hs.imlt b q hi))) (λb q h=>h.imp id (λh=>by rw[h.2.1];rfl))
     (λb q h=>h.elim (λh=>Nat.lt_of_lt_of_le (hs.imlt b q h) (by simp)) (λh=>by simp;omega))
     (λb hb=>by simp[blk]at hb;subst hb;exact .inl (Nat.le_refl _)) (λo2 ho2=>by rw[zed]at ho2;cases ho2)
     (λhE=>⟨hz,xs,⟨hxl,.inr ⟨s.w.heap.size,cap,_,rfl,Nat.zero_le _,by rw[<-hel'];exact heap_alloc_new s.w.drew _,hge,hcm,hcs,by
       simp only[Array.toList_append]
       rw[<-hxl];exact List.take_left⟩⟩,DRs.ext hE.im hE.keep ds _ hd,λb hb q=>by
       simp[Value.ownBlock]at hb;subst hb
       exact⟨λh=>by
        rcases h with h|h
        ·exact absurd (hs.imlt _ q h) (Nat.lt_irrefl _)
        exact⟨h.1,h.2.2⟩,λh=>.inr ⟨h.1,rfl,h.2⟩⟩⟩)
    refine⟨_,_,?_,k1,k2,rfl,zji s (newId cx slot s.m) (.slice (some ⟨s.w.heap.size,0,none⟩) k cap) rfl _ _ _ _ _ _ _ _ (by simp)⟩;rw[hrun];simp only[List.map_cons,List.map_nil,builtin,hav,hxv];simp[hr]
   cases h
  ·rename_i n cs
   split at h
   ·rename_i hc;obtain⟨hk,hdl,hcl,hroom⟩:=hc;simp only[Option.some.injEq,Prod.mk.injEq]at h;obtain⟨rfl,rfl⟩:=h;obtain⟨a0,hav,hold⟩:=ha;obtain⟨hr1,hr2⟩:=zza hroom;have hxl:xs.length=k*r.sz:=(DRs.length _ _ hd).symm.trans hdl;have hel':el=r.t:=hrt.symm
    obtain⟨b,q,rfl,hcell⟩:∃b q,ad=some ⟨b,q,none⟩/\∀j v,xs[j]?=some v->s.w.cell? ⟨b,q+j,none⟩=some v:=by
     rcases hxc' _ rfl with⟨h0,_⟩|h
     ·exact absurd h0 hk
     exact h
    have hnews:∀j v,xs[j]?=some v->s.w.cell? ((⟨b,q,none⟩:Addr).add j)=some v:=λj v hj=>by rw[zhe];exact hcell j v hj
    -- a new row is made, of the old cells and the new ones
    obtain⟨olds,hol,hdo,v',w',hr,hown',hgrow⟩:∃olds,olds.length=n*r.sz/\DRs s.w s.Im cs olds/\∃v' w',(Builtin.append_ #[t,t] o.type #[.slice a0 n n,.slice (some ⟨b,q,none⟩) k c]).run P s.w=.ok v' w'/\w'.ownsRow s.w.heap.size el r.sz v' (n+k) (olds++xs)/\s.w.grownBy w' none:=by
     rcases hold with⟨rfl,rfl⟩|⟨b0,q0,rfl,hcr⟩
     ·refine⟨[],by simp,rfl,?_⟩;have hcmk:0+k<=maxLen:=by simp only[maxLen];omega
      cases a0 with
      |none=>
       have hr:=run_append_nil (P:=P) s.w t o.type el i z hu hi hzz ⟨b,q,none⟩ k c xs (by rw[h4];exact hxl) hnews (by omega) (by omega) (by rw[h5];have:=hr1;rw[Nat.zero_add]at this;omega);have hge:=grownCap_ge s.w k 0 el
       refine⟨_,_,hr,⟨by simpa using hxl,.inr ⟨s.w.heap.size,_,_,by rw[Nat.zero_add],Nat.le_refl _,heap_alloc_new s.w.drew _,by omega,grownCap_le_maxLen s.w k 0 el (by omega),?_,?_⟩⟩,⟨rfl,rfl,rfl,by simp,λk hk _=>heap_alloc_old s.w.drew _ k hk⟩⟩
       ·simp only[Array.size_append,List.size_toArray,size_zeroCells,h6,hxl,<-Nat.add_mul];congr 1;omega
       simp only[Array.toList_append,Nat.zero_add,List.nil_append];rw[<-hxl];exact List.take_left
      |some a1=>
       exact run_append_arg_grows (P:=P) (w:=s.w) t o.type el i z r.sz r.by_ hu hi hzz h4 h5 h6 hz a1 0 0 [] (by simp) (by simp) ⟨b,q,none⟩ k c xs hxl hnews (by omega) hcmk (by simpa using hr1)
     obtain⟨olds,ho1,ho2⟩:=CR.cells cs _ hcr;have hol:olds.length=n*r.sz:=(DRs.length _ _ ho1).symm.trans hcl;refine⟨olds,hol,ho1,?_⟩;exact run_append_arg_grows (P:=P) (w:=s.w) t o.type el i z r.sz r.by_ hu hi hzz h4 h5 h6 hz ⟨b0,q0,none⟩ n n olds hol (λj u hj=>by rw[zhe];exact ho2 j u hj) ⟨b,q,none⟩ k c xs hxl hnews (by omega) (by simp only[maxLen];omega) hr1
    obtain⟨hb2,hone⟩:=zm3 (w:=w') (el:=el) (sz:=r.sz) (n:=n+k) (ys:=olds++xs) ⟨hown'.1,hown'.2.imp id λ⟨g,cap,cur,e1,e2,e3⟩=>⟨g,cap,cur,e1,Nat.zero_le _,e3⟩⟩
    have hlt':∀b,blk v'=some b->s.w.heap.size<=b/\b<w'.heap.size:=by
     intro b hb;rw[hb2]at hb;exact hown'.lt b hb
    have hfar:∀b,b<s.w.heap.size->w'.heap[b]?=s.w.heap[b]?:=λb hb=>hgrow.block b hb (by simp)
    obtain⟨k1,k2⟩:=hs.change (newId cx slot s.m) (.row r.wr r.t r.sz (n+k) (cs++ds)) v' w'
     (λb q=>s.Im b q\/(r.wr=false/\blk v'=some b/\q<(n+k)*r.sz)) hgrow.os (Tk.of hgrow.tape (z5h _ _ _ _ _ hr)) hgrow.output hgrow.size (λb hb _=>hfar b hb) (λ_ _ h=>.inl h)
     (λb q hi=>World.cell?_of_block (hfar b (hs.imlt b q hi))) (λb q h=>h.imp id (λh=>h.2.1))
     (λb q h=>h.elim (λh=>Nat.lt_of_lt_of_le (hs.imlt b q h) hgrow.size) (λh=>(hlt' b h.2.1).2))
     (λb hb=>.inl (hlt' b hb).1) (λo2 ho2=>by rw[zed]at ho2;cases ho2)
     (λhE=>⟨hz,olds++xs,by rw[<-hel'];exact⟨hown'.1,hown'.2.imp id λ⟨g,cap,cur,e1,e2,e3⟩=>⟨g,cap,cur,e1,Nat.zero_le _,e3⟩⟩,DRs.append _ _ _ _ (DRs.ext hE.im hE.keep cs _ hdo) (DRs.ext hE.im hE.keep ds _ hd),λb hb q=>by
       constructor
       ·rintro(h|⟨h1,h2,h3⟩)
        ·exact absurd (hs.imlt _ q h) (Nat.not_lt.2 (hlt' b (by rw[hb2];exact hb)).1)
        exact⟨h1,h3⟩
       rintro⟨h1,h2⟩
       exact .inr ⟨h1,by rw[hb2];exact hb,h2⟩⟩)
    refine⟨_,v',?_,k1,k2,rfl,zji s (newId cx slot s.m) v' hone _ _ _ _ _ _ _ _ (by simp)⟩;rw[hrun];simp only[List.map_cons,List.map_nil,builtin,hav,hxv];simp[hr]
   cases h
  cases h
end
end Go.Evl
namespace Go.Evl
open Go.RowKit Go.Lib
section
variable{P:Program}
theorem z56 [Clk](w:World)(t u ty el:TypeId)(i:TypeInfo)(ht:P.underlying t=some (.slice el))(hu:P.underlying u=some .string)(hi:P.info? el=some i)(hz:i.zero=some (.int .u8 0))
  (hsize:i.size=1)(hby:i.bytes=1)
  (v:Value)(n:Nat)(ys:List Value)(hown:w.ownsRow 0 el 1 v n ys)(s:ByteArray)(hlen0:n+s.size<=140737488355328):
  ∃v' w',(Builtin.append_ #[t,u] ty #[v,.string s]).run P w=.ok v' w'/\w'.ownsRow 0 el 1 v' (n+s.size) (ys++strCells s)/\w'.os=w.os/\w'.tape=w.tape/\w'.output=w.output/\w.heap.size<=w'.heap.size/\
   (∀b,b<w.heap.size->v.ownBlock≠some b->w'.heap[b]?=w.heap[b]?)/\(∀g,v.ownBlock=some g->∀j,j<n*1->w'.cell? ⟨g,j,none⟩=w.cell? ⟨g,j,none⟩)/\
   (v'.ownBlock=v.ownBlock\/v'.ownBlock=some w.heap.size)/\(s.size=0->v'=v):=by
 have hcm:n+s.size<=maxLen:=by simp only[maxLen];omega
 have hxl:ys.length=n:=by simpa using hown.1
 have hll:(ys++strCells s).length=(n+s.size)*1:=by rw[List.length_append,hxl,strCells_length,Nat.mul_one]
 have grown:∀(old:Nat),old<n+s.size->
   (w.drew.alloc (.cells (ys.toArray++(strCells s).toArray++Builtin.zeroCells (Value.int .u8 0).cells (grownCap w (n+s.size) old el-(n+s.size))) el)).ownsRow 0 el 1
    (.slice (some ⟨w.heap.size,0,none⟩) (n+s.size) (grownCap w (n+s.size) old el)) (n+s.size) (ys++strCells s):=by
  intro old ho;have hge:=grownCap_ge w (n+s.size) old el;have hcm2:grownCap w (n+s.size) old el<=maxLen:=grownCap_le_maxLen w (n+s.size) old el hcm
  refine⟨hll,.inr ⟨w.heap.size,_,_,rfl,Nat.zero_le _,heap_alloc_new w.drew _,hge,hcm2,?_,?_⟩⟩
  ·have hz1:(Value.int IntKind.u8 0).cells.size=1:=rfl;simp only[Array.size_append,List.size_toArray,size_zeroCells,hz1,hxl,strCells_length];omega
  simp only[Array.toList_append,List.append_assoc];rw[<-List.append_assoc,<-hll];exact List.take_left
 rcases hown.2 with⟨rfl,rfl⟩|⟨g,cap,cur,rfl,hbg,hg,hnc,hcm3,hcs,htake⟩
 ·have hy:ys=[]:=List.eq_nil_of_length_eq_zero hxl;subst hy
  by_cases hm:s.size=0
  ·have hn:strCells s=[]:=List.eq_nil_of_length_eq_zero (by rw[strCells_length];exact hm);have hf:=run_firstCells_string (P:=P) w 1 s;rw[hm]at hf;refine⟨.slice none 0 0,w,?_,by rw[hm,hn];exact World.ownsRow_nil w 0 el 1,rfl,rfl,rfl,Nat.le_refl _,λ_ _ _=>rfl,λ_ _ _ _=>rfl,.inl rfl,λ_=>rfl⟩;simp[Builtin.append_,run_underlying ht,run_underlying hu,sizeOf,typeInfo,hi,hsize,Builtin.lenOf,hm,hf]
  have hr:=run_append_nil_string (P:=P) w t u ty el i (.int .u8 0) ht hu hi hz s (by omega) (by omega) (by rw[hby];omega);have hgr:=grown 0 (by omega);simp only[Nat.zero_add,List.nil_append,Array.empty_append]at hgr⊢
  have e1:(s.data.map λb=>Value.int .u8 b.toNat)=(strCells s).toArray:=by
   apply Array.ext';simp[strCells]
  rw[e1]at hr;exact⟨_,_,hr,hgr,rfl,rfl,rfl,by simp,λb hb _=>heap_alloc_old w.drew _ b hb,λg hg=>by simp[Value.ownBlock]at hg,.inr rfl,λh0=>absurd h0 hm⟩
 have hcs':cur.size=cap:=by simpa using hcs
 have ht':cur.toList.take n=ys:=by simpa using htake
 by_cases hroom:n+s.size<=cap
 ·have hr:=run_append_room_string (P:=P) w t u ty el i ht hu hi hsize g n cap cur hg s hroom (by omega)
  refine⟨_,_,hr,⟨hll,.inr ⟨g,cap,_,rfl,hbg,setRow_heap w g cur _ el _ hg,hroom,hcm3,?_,?_⟩⟩,rfl,rfl,rfl,by simp,λk2 _ hk2=>setRow_other w g k2 _ (λe=>hk2 (by simp[Value.ownBlock,e])),λg2 hg2 j hj=>?_,.inl rfl,λh0=>by simp[h0]⟩
  ·simp only[List.size_toArray,List.length_append,List.length_take,List.length_drop,Array.length_toList,strCells_length];omega
  ·rw[ht',<-hll];exact List.take_left
  simp[Value.ownBlock]at hg2;subst hg2;rw[cell_of_row _ g j _ el (0,0) (setRow_heap w g cur _ el _ hg),cell_of_row _ g j cur el (0,0) hg];simp only[List.getElem?_toArray,List.append_assoc];rw[List.getElem?_append_left (by simp;omega),List.getElem?_take,if_pos (by omega)];simp
 have holds:∀j u,ys[j]?=some u->w.cell? ((⟨g,0,none⟩:Addr).add j)=some u:=hown.cells (g:=g) rfl
 have hr:=run_append_grow_string (P:=P) w t u ty el i (.int .u8 0) ht hu hi hz ⟨g,0,none⟩ n cap ys (by rw[hsize];simpa using hxl) holds s (by omega) (by omega) (by rw[hby];exact growslice_fits (by omega) (by omega));have hgr:=grown cap (by omega)
 exact⟨_,_,hr,hgr,rfl,rfl,rfl,by simp,λb hb _=>heap_alloc_old w.drew _ b hb,λg2 hg2 j _=>World.cell?_of_block (heap_alloc_old w.drew _ _ (by
  simp[Value.ownBlock]at hg2;subst hg2;exact(Array.getElem?_eq_some_iff.1 hg).1)),.inr rfl,λh0=>by omega⟩
variable{oc:zel}{gl:Globs}{s:S}{A:Act}{o:Oper}{e:Env}
def yz7(P:Program)(t:TypeId):Bool:=match P.underlying t with|some .string=>true|_=>false
theorem ywo{t:TypeId}(h:yz7 P t=true):P.underlying t=some .string:=by
 unfold yz7 at h;split at h<;>first|assumption|cases h
def yuz(P:Program)(el:TypeId):Bool:=
 match P.info? el with
 |some i=>i.size==1&&i.bytes==1&&(match i.zero with|some (.int .u8 0)=>true|_=>false)
 |none=>false
theorem yq6{el:TypeId}(h:yuz P el=true):∃i,P.info? el=some i/\i.size=1/\i.bytes=1/\i.zero=some (.int .u8 0):=by
 unfold yuz at h
 split at h
 ·rename_i i hi;simp only[Bool.and_eq_true,beq_iff_eq]at h;refine⟨i,hi,h.1.1,h.1.2,?_⟩;have h2:=h.2
  split at h2
  ·assumption
  cases h2
 cases h
def z4x(P:Program)(gl:Globs)(o:Oper)(r:zd6)(a x:Opd):Bool:=
 match bi o.op with
 |some (.append,[a',x'],[t,t'])=>okX gl a' a&&okX gl x' x&&yz7 P t'&&r.sz==1&&r.by_==1&&(match zrm P t with|some el=>el==r.t&&yuz P el|none=>false)
 |_=>false
theorem ym2(w:World)(Im:Nat->Nat->Prop):∀(b:List UInt8),DRs w Im (yhv b) (strCells ⟨b.toArray⟩):=by
 intro b;have:strCells ⟨b.toArray⟩=b.map λc=>Value.int .u8 c.toNat:=by simp[strCells]
 rw[this];induction b with
 |nil=>rfl
 |cons c r ih=>exact⟨_,_,rfl,rfl,rfl,ih (by simp[strCells])⟩
theorem yax [Clk](hs:Sim oc gl s)(he:zc9 s e A.tmps)(cx:Cx)(slot:Nat){r:zd6}{a x:Opd}{v:V}{m':Mem}(ok:z4x P gl o r a x=true)(h:zxp cx slot r s.m (a.ev e) (x.ev e)=some (v,m')):
  ze9 P oc gl s A o v m':=by
 unfold z4x at ok;split at ok
 rotate_left
 ·cases ok
 rename_i a' x' t t' ho;simp only[Bool.and_eq_true,beq_iff_eq]at ok;obtain⟨⟨⟨⟨⟨oka,okx⟩,hstr⟩,hr1⟩,hr2⟩,hty⟩:=ok;split at hty<;>try cases hty
 rename_i el hel;simp only[Bool.and_eq_true,beq_iff_eq]at hty;obtain⟨hrt,hbz⟩:=hty;obtain⟨i,hi,h4,h5,hzz⟩:=yq6 hbz;have hu:=zi7 hel;have hu2:=ywo hstr;have ha:=zbg hs he oka;have hx:=zbg hs he okx;generalize a.ev e=va at ha h;generalize x.ev e=vx at hx h;obtain⟨cn,hrun⟩:=z01 (P:=P) (A:=A) ho s.w;unfold zxp at h;split at h<;>try cases h
 rename_i b j off len top;have hxv:A.eval x'=.string ⟨b.toArray⟩:=hx;have hd:=ym2 s.w s.Im b;have hbs:(ByteArray.mk b.toArray).size=b.length:=by simp[ByteArray.size]
 unfold zp8 at h;simp only at h
 split at h
 ·rename_i wr ty sz n rs hl
  split at h
  ·rename_i hc;obtain⟨rfl,rfl,rfl,rfl,rfl,hdl,hroom⟩:=hc;simp only[Option.some.injEq,Prod.mk.injEq]at h;obtain⟨rfl,rfl⟩:=h;have h2:=ha.2;rw[hl]at h2;obtain⟨hz2,ys,hown,hdr,him⟩:=hs.objs j _ hl
   have hav:A.eval a'=s.φ j:=by
    rcases h2.2 rfl with⟨_,_,hx⟩|⟨hne,_⟩|⟨hne,_⟩
    ·exact hx
    ·exact absurd ⟨rfl,rfl⟩ hne
    exact absurd ⟨rfl,rfl⟩ hne
   obtain⟨_,hrm⟩:=zza hroom;rw[hr1]at hown him hz2;obtain⟨v',w',hr,hown',hos,htp,hout,hsize,hfar,hnear,hblk,hk0⟩:=z56 (P:=P) s.w t t' o.type el i hu hu2 hi hzz h4 h5 (s.φ j) len ys (by rw[hrt];exact hown) ⟨b.toArray⟩ (by rw[hbs];exact hrm);rw[hbs]at hown' hk0;obtain⟨hb1,_⟩:=zm3 hown;obtain⟨hb2,hone⟩:=zm3 hown'
   have hlt':∀b,blk v'=some b->b<w'.heap.size:=by
    intro b hb;rw[hb2]at hb;exact(hown'.lt b hb).2
   obtain⟨k1,k2⟩:=hs.change j (.row wr r.t r.sz (len+b.length) (rs++yhv b)) v' w' (λc q=>s.Im c q\/(wr=false/\blk v'=some c/\q<(len+b.length)*1)) hos (Tk.of htp (z5h _ _ _ _ _ hr)) hout hsize
    (λb hb hne=>hfar b hb (by rw[<-hb1];exact hne ⟨_,hl,by simp⟩)) (λ_ _ h=>.inl h)
    (λb q hi=>by
     by_cases hbo:(s.φ j).ownBlock=some b
     ·have:=((him b hbo q).1 hi).2;exact hnear b hbo q this
     exact World.cell?_of_block (hfar b (hs.imlt b q hi) hbo))
    (λb q h=>h.imp id (λh=>h.2.1))
    (λb q h=>h.elim (λh=>Nat.lt_of_lt_of_le (hs.imlt b q h) hsize) (λh=>hlt' b h.2.1))
    (λb hb=>by
     rw[hb2]at hb
     rcases hblk with e1|e1
     ·exact .inr ⟨⟨_,hl,by simp⟩,by rw[hb1,<-e1];exact hb⟩
     rw[e1]at hb;cases hb;exact .inl (Nat.le_refl _))
    (λo2 ho2=>by
     rw[hl]at ho2;cases ho2
     exact⟨λh=>h,rfl,rfl,Nat.le_add_right _ _,λe=>hk0 (by omega)⟩)
    (λhE=>by
     rw[hr1];refine⟨hz2,ys++strCells ⟨b.toArray⟩,by rw[<-hrt];exact hown',DRs.append _ _ _ _ (DRs.ext hE.im hE.keep rs _ hdr) (DRs.ext hE.im hE.keep _ _ hd),λc hb q=>?_⟩
     constructor
     ·rintro(h|⟨h1,h2,h3⟩)
      ·rcases hblk with e1|e1
       ·have hbo:(s.φ j).ownBlock=some c:=by rw[<-e1];exact hb
        have:=(him c hbo q).1 h;exact⟨this.1,by omega⟩
       rw[e1]at hb;cases hb;exact absurd (hs.imlt _ q h) (Nat.lt_irrefl _)
      exact⟨h1,h3⟩
     rintro⟨h1,h2⟩
     exact .inr ⟨h1,by rw[hb2];exact hb,h2⟩)
   refine⟨_,v',?_,k1,k2,rfl,zji s j v' hone _ _ _ _ _ _ _ _ (by simp)⟩;rw[hrun];simp only[List.map_cons,List.map_nil,builtin,hav,hxv];simp[hr]
  cases h
 cases h
end
end Go.Evl
namespace Go.Evl
open Go.RowKit
section
variable{P:Program}{oc:zel}{gl:Globs}{s:S}{A:Act}{o:Oper}{e:Env}
theorem ydj [Clk](hs:Sim oc gl s){i:Id}{t sz n:Nat}{rs ds:List D}{xs:List Value}{g capp off:Nat}(hl:look s.m i=some (.row true t sz n rs))(hp:s.φ i=.slice (some ⟨g,0,none⟩) n capp)
  (hd:DRs s.w s.Im ds xs)(hfit:off+xs.length<=n*sz):
  ∃s',(∀P,(storeCells ⟨g,off,none⟩ xs).run P s.w=.ok () s'.w)/\Sim oc gl s'/\Ext (λ_=>True) s s'/\s'.m=upd s.m i (.row true t sz n (patch rs off ds)):=by
 obtain⟨hz,ys,hown,hdr,him⟩:=hs.objs i _ hl
 rcases hown.2 with⟨hp',h0⟩|⟨g',cap',cur,hp',hg0,hh,hnc,hcm,hcs,htake⟩
 ·rw[hp]at hp';injection hp' with e1;cases e1
 have hgg:g'=g:=by rw[hp]at hp';injection hp' with e1;injection e1 with e1;injection e1 with e1 _;exact e1.symm
 subst hgg;have hcap:n*sz<=cap'*sz:=Nat.mul_le_mul_right _ hnc;have hdl:=DRs.length _ _ hd;have hrl:=(DRs.length _ _ hdr).trans hown.1
 have hrun:∀P,(storeCells ⟨g',off,none⟩ xs).run P s.w=.ok () (s.w.setRow g' (patch cur.toList off xs).toArray):=by
  intro P;have:=run_storeCells_at P g' off t xs 0 cur s.w hh (by omega) (DRs.ones _ _ hd);simpa[patch]using this
 obtain⟨h1,h2⟩:=zve hs (i:=i) (o':=.row true t sz n (patch rs off ds)) (patch cur.toList off xs).toArray hl (by simp) (by rw[hp];rfl) hh
  (λj hj=>absurd ((him g' (by rw[hp];rfl) j).1 hj).1 (by simp)) ⟨λh=>h,rfl,rfl,Nat.le_refl _,λ_=>rfl⟩
  (λhE=>⟨hz,patch ys off xs,⟨by rw[zi6 _ _ _ (by rw[hown.1];exact hfit)];exact hown.1,.inr ⟨g',cap',_,hp',hg0,by simpa using setRow_heap s.w g' cur _ t (0,0) hh,hnc,hcm,by
    have:=zi6 cur.toList off xs (by simp;omega);simp[this,hcs],by
    simp only[];rw[<-htake]
    exact z8e _ _ _ _ hfit (by simp;omega)⟩⟩,DRs.patch (DRs.ext hE.im hE.keep rs _ hdr) (DRs.ext hE.im hE.keep ds _ hd),him⟩)
 exact⟨_,hrun,h1,h2,rfl⟩
theorem z6x [Clk](hs:Sim oc gl s)(he:zc9 s e A.tmps){r:zd6}{a x:Opd}{v:V}{m':Mem}(ok:zu3 P gl o r a x=true)(h:zxn r s.m (a.ev e) (x.ev e)=some (v,m')):
  ze9 P oc gl s A o v m':=by
 unfold zu3 at ok;split at ok
 rotate_left
 ·cases ok
 rename_i a' x' t t' ho;simp only[Bool.and_eq_true,beq_iff_eq]at ok;obtain⟨⟨⟨oka,okx⟩,rfl⟩,hty⟩:=ok;split at hty<;>try cases hty
 rename_i el hel;obtain⟨hrt,hz,i,z,hi,h4,h5,hzz,h6⟩:=ya1 hty;have hu:=zi7 hel;have ha:=zbg hs he oka;have hx:=zbg hs he okx;generalize a.ev e=va at ha h;generalize x.ev e=vx at hx h;obtain⟨cn,hrun⟩:=z01 (P:=P) (A:=A) ho s.w;unfold zxn at h;split at h<;>try cases h
 rename_i k ds j off len top hel2;obtain⟨ad,c,xs,hxv,hd,hxc⟩:=yh4 hs hx hel2;split at h<;>try cases h
 rename_i ty sz n rs hl;split at h<;>try cases h
 rename_i hc;obtain⟨rfl,hlt,hlt2,rfl,rfl,hdl⟩:=hc;have h2:=ha.2;rw[hl]at h2;obtain⟨hz2,ys,hown,hdr,him⟩:=hs.objs j _ hl;have hxl:xs.length=k*r.sz:=(DRs.length _ _ hd).symm.trans hdl;have hmul:(off+len)*r.sz+k*r.sz<=n*r.sz:=by rw[<-Nat.add_mul];exact Nat.mul_le_mul_right _ (by omega)
 rcases h2.2 rfl with⟨e1,e2,_⟩|⟨hne,b,cap,capp,hp,hle,hoc,hlc,hav⟩|⟨hne,e1,e2,_⟩
 ·omega
 rotate_left
 ·omega
 have hnc:=z41 hown hp;obtain⟨s',hr,k1,k2,k3⟩:=ydj hs (off:=(off+len)*r.sz) hl hp hd (by rw[hxl];exact hmul);obtain⟨o',ho',ht⟩:=k2.objs j _ trivial hl;have hlk:look s'.m j=some (.row true r.t r.sz n (patch rs ((off+len)*r.sz) ds)):=by rw[k3];exact zbh _ _ _
 rw[hlk]at ho';obtain rfl:=Option.some.inj ho';have hφ:s'.φ j=s.φ j:=ht.2.2.2.2 rfl
 refine⟨s',.slice (some ⟨b,off*r.sz,none⟩) (len+k) cap,?_,k1,k2,k3,rfl,?_⟩
 ·rw[hrun];have hst:=hr P;simp only[List.map_cons,List.map_nil,builtin,hav,hxv]
  rcases Nat.eq_zero_or_pos k with hk|hk
  ·subst hk;have hxs:xs=[]:=List.eq_nil_of_length_eq_zero (by simpa using hxl);subst hxs;have hw:s'.w=s.w:=by simpa[storeCells]using hst.symm
   have:=zpe (P:=P) s.w hu hi (some ⟨b,off*r.sz,none⟩) len cap hlc ad c (ty:=o.type);rw[hw];simp[this]
  obtain⟨b',q,rfl,hcell⟩:∃b' q,ad=some ⟨b',q,none⟩/\∀j v,xs[j]?=some v->s.w.cell? ⟨b',q+j,none⟩=some v:=by
   rcases hxc with⟨h0,_⟩|h
   ·omega
   exact h
  have hfc:=run_firstCells_some (P:=P) s.w r.sz k ⟨b',q,none⟩ k c xs hxl (λj v hj=>by rw[zhe];exact hcell j v hj);rw[Nat.add_mul]at hst;simp[Builtin.append_,run_underlying hu,sizeOf,typeInfo,hi,h4,Builtin.lenOf,show len+k<=cap by omega,hfc,zhe,hst]
 show yme _ _ _ _ _ (look s'.m j);rw[hlk,hφ]
 by_cases hw:off=0/\len+k=n
 ·obtain⟨rfl,hw⟩:=hw;refine⟨Nat.le_refl _,λ_=>.inl ⟨rfl,hw,?_⟩⟩;have hcc:cap=capp:=by omega
  rw[hp,hw,hcc,Nat.zero_mul]
 exact⟨Nat.le_refl _,λ_=>.inr (.inl ⟨hw,b,cap,capp,hp,by omega,hoc,by omega,rfl⟩)⟩
def yf7(P:Program)(gl:Globs)(o:Oper)(zero:List D)(x:Opd):Bool:=
 match bi o.op with
 |some (.clear,[x'],[t])=>okX gl x' x&&(match zrm P t with|some el=>(match z60 P el with|some vals=>zs0 zero vals&&decide (0<vals.length)|none=>false)|none=>false)
 |_=>false
theorem zwh(zs:Array Value)(n:Nat)(h:0<zs.size):(Builtin.zeroCells zs n).toList=(List.replicate n zs.toList).flatten:=z6n zs n h
theorem z14 [Clk](w:World)(t u ty el:TypeId)(i:TypeInfo)(z:Value)(kk:IntKind)(ht:P.underlying t=some (.slice el))(hu:P.underlying u=some (.int kk))(hi:P.info? el=some i)(hz:i.zero=some z)
  (hz0:0<i.size)(a0:Option Addr)(l:Int)(h0:0<l)(h1:l.toNat<=140737488355328)(h2:l.toNat*i.bytes<=140737488355328):
  ∃cap,l.toNat<=cap/\cap<=maxLen/\(Builtin.append_ #[t,u] ty #[.slice a0 0 0,.int .i64 l]).run P w=
   .ok (.slice (some ⟨w.heap.size,0,none⟩) l.toNat cap) (w.drew.alloc (.cells (Builtin.zeroCells z.cells l.toNat++Builtin.zeroCells z.cells (cap-l.toNat)) el)):=by
 have hcm:l.toNat<=maxLen:=by simp only[maxLen];omega
 refine⟨_,grownCap_ge w l.toNat 0 el,grownCap_le_maxLen w l.toNat 0 el hcm,?_⟩
 have hwr:IntKind.i64.wrap l=l:=by
  have:=IntKind.wrap_i64 l;omega
 have hai:∀w,(asInt (.int .i64 l)).run P w=.ok l w:=λw=>by simp[asInt,asIntOf]
 have hl0:¬l<0:=by omega
 have hm:l*(i.bytes:Int)=((l.toNat*i.bytes:Nat):Int):=by rw[Int.natCast_mul];congr 1;omega
 have h3:¬(281474976710656<l*(i.bytes:Int)):=by rw[hm];omega
 have hn:l.toNat≠0:=by omega
 have h48':¬(281474976710656<Builtin.nextslicecap l.toNat 0*i.bytes):=by rw[nextslicecap_zero (by omega)];omega
 have hsz0:l.toNat*i.size≠0:=Nat.mul_ne_zero hn (by omega);have hmx:¬(9223372036854775807<max l 0):=by omega
 have hle:¬l<=0:=by omega
 cases a0 with
 |none=>simp[Builtin.append_,run_underlying ht,run_underlying hu,sizeOf,typeInfo,zeroValue,hi,hz,hai,hwr,hl0,h3,hle,hsz0,hmx,h48',Question.forced,run_firstCells_none,newRow,grownCap]
 |some a=>simp[Builtin.append_,run_underlying ht,run_underlying hu,sizeOf,typeInfo,zeroValue,hi,hz,hai,hwr,hl0,h3,hle,hsz0,hmx,h48',Question.forced,Builtin.firstCells,loadCells,loadCellsFrom,newRow,grownCap]
def z4y(P:Program)(gl:Globs)(o:Oper)(r:zd6)(zero:List D)(a n:Opd):Bool:=
 match bi o.op with
 |some (.append,[x,y],[t,u])=>okX gl x a&&okX gl y n&&(match zrm P t with|some el=>el==r.t&&ytf P el r|none=>false)&&(match P.underlying u with|some (.int _)=>true|_=>false)&&
   (match z60 P r.t with|some vals=>zs0 zero vals|none=>false)
 |_=>false
theorem yay [Clk](hs:Sim oc gl s)(he:zc9 s e A.tmps)(cx:Cx)(slot:Nat){r:zd6}{zero:List D}{a n:Opd}{l:Int}(ok:z4y P gl o r zero a n=true)(ha:a.ev e=.d .nil)(hn:n.ev e=.d (.int .i64 l))(h0:0<l)(hroom:z5f l.toNat r.by_=true):
  ze9 P oc gl s A o (.ref (newId cx slot s.m) 0 l.toNat l.toNat) (upd s.m (newId cx slot s.m) (.row r.wr r.t r.sz l.toNat (List.replicate l.toNat zero).flatten)):=by
 unfold z4y at ok;split at ok
 rotate_left
 ·cases ok
 rename_i x' y' t u ho;simp only[Bool.and_eq_true]at ok;obtain⟨⟨⟨⟨oka,okn⟩,hty⟩,hut⟩,hzc⟩:=ok;split at hty<;>try cases hty
 rename_i el hel;simp only[Bool.and_eq_true,beq_iff_eq]at hty;obtain⟨rfl,hsp⟩:=hty;obtain⟨_,hz,i,z,hi,h4,h5,hzz,h6⟩:=ya1 hsp;have hu:=zi7 hel;split at hut<;>try cases hut
 rename_i kk hku;have hza:z60 P r.t=some z.cells.toList:=by simp[z60,hi,hzz]
 rw[hza]at hzc;have hva:=zbg hs he oka;have hvn:=zbg hs he okn;rw[ha]at hva;rw[hn]at hvn;obtain⟨a0,hva⟩:=hva;have hvn:A.eval y'=.int .i64 l:=hvn;obtain⟨hr1,hr2⟩:=zza hroom;obtain⟨cn,hrun⟩:=z01 (P:=P) (A:=A) ho s.w;obtain⟨cap,hge,hcm,hr⟩:=z14 (P:=P) s.w t u o.type r.t i z kk hu hku hi hzz (by omega) a0 l h0 hr2 (by rw[h5];exact hr1)
 have hcs:(Builtin.zeroCells z.cells l.toNat++Builtin.zeroCells z.cells (cap-l.toNat)).size=cap*r.sz:=by
  simp only[Array.size_append,size_zeroCells,h6,<-Nat.add_mul];congr 1;omega
 have hd:DRs s.w s.Im (List.replicate l.toNat zero).flatten (Builtin.zeroCells z.cells l.toNat).toList:=by
  rw[zwh z.cells _ (by omega)];exact DRs.replicate (zym _ _ _ _ hzc) _
 have hxl:(Builtin.zeroCells z.cells l.toNat).toList.length=l.toNat*r.sz:=by
  rw[Array.length_toList,size_zeroCells,h6]
 obtain⟨k1,k2⟩:=hs.change (newId cx slot s.m) (.row r.wr r.t r.sz l.toNat (List.replicate l.toNat zero).flatten) (.slice (some ⟨s.w.heap.size,0,none⟩) l.toNat cap) (s.w.drew.alloc (.cells (Builtin.zeroCells z.cells l.toNat++Builtin.zeroCells z.cells (cap-l.toNat)) r.t))
  (λb q=>s.Im b q\/(r.wr=false/\b=s.w.heap.size/\q<l.toNat*r.sz)) rfl Tk.of rfl (by simp) (λb hb _=>heap_alloc_old s.w.drew _ _ hb) (λ_ _ h=>.inl h)
  (λb q hi=>World.cell?_of_block (heap_alloc_old s.w.drew _ _ (hs.imlt b q hi))) (λb q h=>h.imp id (λh=>by rw[h.2.1];rfl))
  (λb q h=>h.elim (λh=>Nat.lt_of_lt_of_le (hs.imlt b q h) (by simp)) (λh=>by simp;omega))
  (λb hb=>by simp[blk]at hb;subst hb;exact .inl (Nat.le_refl _)) (λo2 ho2=>by rw[zed]at ho2;cases ho2)
  (λhE=>⟨hz,(Builtin.zeroCells z.cells l.toNat).toList,⟨hxl,.inr ⟨s.w.heap.size,cap,_,rfl,Nat.zero_le _,heap_alloc_new s.w.drew _,hge,hcm,hcs,by
    simp only[Array.toList_append]
    rw[<-hxl];exact List.take_left⟩⟩,DRs.ext hE.im hE.keep _ _ hd,λb hb q=>by
    simp[Value.ownBlock]at hb;subst hb
    exact⟨λh=>by
     rcases h with h|h
     ·exact absurd (hs.imlt _ q h) (Nat.lt_irrefl _)
     exact⟨h.1,h.2.2⟩,λh=>.inr ⟨h.1,rfl,h.2⟩⟩⟩)
 refine⟨_,_,?_,k1,k2,rfl,zji s (newId cx slot s.m) (.slice (some ⟨s.w.heap.size,0,none⟩) l.toNat cap) rfl _ _ _ _ _ _ _ _ (by simp)⟩;rw[hrun];simp only[List.map_cons,List.map_nil,builtin,hva,hvn];simp[hr]
theorem zyl:∀(cs:List D)(xs:List Value),zs0 cs xs=true->cs.length=xs.length
 |[],xs,h=>by cases xs<;>simp[zs0]at h⊢
 |d::q,xs,h=>by
  cases xs
  ·simp[zs0]at h
  simp only[zs0,Bool.and_eq_true]at h;simp[zyl q _ h.2]
theorem yg1 [Clk](hs:Sim oc gl s)(he:zc9 s e A.tmps){zero:List D}{x:Opd}{m':Mem}(ok:yf7 P gl o zero x=true)(h:yhx zero s.m (x.ev e)=some m'):ze9 P oc gl s A o .skip m':=by
 unfold yf7 at ok;split at ok
 rotate_left
 ·cases ok
 rename_i x' t ho;simp only[Bool.and_eq_true]at ok;obtain⟨okx,hty⟩:=ok;split at hty<;>try cases hty
 rename_i el hel;split at hty<;>try cases hty
 rename_i vals hvals;simp only[Bool.and_eq_true,decide_eq_true_eq]at hty;obtain⟨hcz,hpos⟩:=hty;obtain⟨z,hzr,hzc⟩:=ya8 hvals;have hu:=zi7 hel;have hvx:=zbg hs he okx;generalize x.ev e=vx at hvx h;obtain⟨cn,hrun⟩:=z01 (P:=P) (A:=A) ho s.w
 have zeroLen:∀ad c,A.eval x'=.slice ad 0 c->ze9 P oc gl s A o .skip s.m:=by
  intro ad c hav;refine zbq hs (x:=.tuple #[]) ?_ rfl;rw[hrun];cases ad<;>simp[builtin,Builtin.clear_,run_underlying hu,hav]
 unfold yhx at h
 split at h
 ·rename_i cs;obtain rfl:=Option.some.inj h;obtain⟨ad,cap,hav,_⟩:=hvx;exact zeroLen ad cap hav
 ·rename_i i off len top
  split at h
  ·rename_i ty sz n rs hl
   split at h
   ·rename_i hc;obtain⟨rfl,hle,hzl⟩:=hc;obtain rfl:=Option.some.inj h;have h2:=hvx.2;rw[hl]at h2;obtain⟨hz,ys,hown,hdr,him⟩:=hs.objs i _ hl;have hcl:=zyl _ _ hcz;have hd:=DRs.replicate (zym s.w s.Im _ _ hcz) len
    have hfl:(List.replicate len vals).flatten.length=len*sz:=by
     simp[hcl.symm.trans hzl]
    have hmle:off*sz+len*sz<=n*sz:=by rw[<-Nat.add_mul];exact Nat.mul_le_mul_right _ hle
    have fin:∀g capp cap,s.φ i=.slice (some ⟨g,0,none⟩) n capp->A.eval x'=.slice (some ⟨g,off*sz,none⟩) len cap->len≠0->
      ze9 P oc gl s A o .skip (upd s.m i (.row true ty sz n (patch rs (off*sz) (List.replicate len zero).flatten))):=by
     intro g capp cap hp hav hl0;obtain⟨s',hr,k1,k2,k3⟩:=ydj hs (off:=off*sz) hl hp hd (by rw[hfl];omega);refine⟨s',.tuple #[],?_,k1,k2,k3,rfl⟩;rw[hrun];have hst:=hr P;have hzf:(Builtin.zeroCells z.cells len).toList=(List.replicate len vals).flatten:=by rw[zwh _ _ (by rw[<-Array.length_toList,hzc];exact hpos),hzc]
     obtain⟨l',rfl⟩:∃l',len=l'+1:=⟨len-1,by omega⟩
     simp[builtin,Builtin.clear_,run_underlying hu,hav,hzr,hzf,hst]
    have nothing:len=0->∀ad' cap,A.eval x'=.slice ad' len cap->ze9 P oc gl s A o .skip (upd s.m i (.row true ty sz n (patch rs (off*sz) (List.replicate len zero).flatten))):=by
     intro h0 ad' cap hav;subst h0;have hpe:patch rs (off*sz) (List.replicate 0 zero).flatten=rs:=by simp[patch]
     rw[hpe]
     have hmem:∀(m:Mem),look m i=some (.row true ty sz n rs)->upd m i (.row true ty sz n rs)=m:=by
      intro m;induction m with
      |nil=>intro h;simp[look]at h
      |cons p r ih=>
       intro h;obtain⟨j,x⟩:=p;simp only[look]at h;simp only[upd]
       split
       ·rename_i e;subst e;simp at h;rw[h]
       rename_i e;simp only[e,if_false]at h;rw[ih h]
     rw[hmem _ hl];exact zeroLen ad' cap hav
    by_cases hl0:len=0
    ·rcases h2.2 rfl with⟨e1,e2,hx⟩|⟨hne,b,cap,capp,hp,_,hoc,hlc,hx⟩|⟨hne,_,_,ad',c',hx⟩
     ·subst e1;subst e2;rcases hown.2 with⟨hp,h0⟩|⟨g,cap,cur,hp,_⟩
      ·exact nothing hl0 none 0 (by rw[h0];exact hx.trans hp)
      exact nothing hl0 _ cap (hx.trans hp)
     ·exact nothing hl0 _ cap hx
     exact nothing hl0 ad' c' (by rw[hl0];exact hx)
    rcases h2.2 rfl with⟨e1,e2,hx⟩|⟨hne,b,cap,capp,hp,_,hoc,hlc,hx⟩|⟨hne,_,h0,ad',c',hx⟩
    ·subst e1;subst e2;rcases hown.2 with⟨hp,h0⟩|⟨g,cap,cur,hp,_⟩
     ·exact absurd h0 hl0
     exact fin g cap cap hp (by rw[Nat.zero_mul];exact hx.trans hp) hl0
    ·exact fin b capp cap hp hx hl0
    exact absurd h0 hl0
   cases h
  cases h
 cases h
end
end Go.Evl
namespace Go.Evl
open Go.RowKit
section
variable{P:Program}{oc:zel}{gl:Globs}{s:S}{A:Act}{o:Oper}{e:Env}
def z4p(P:Program)(kinds:TypeId->Option (List KK)):Nat->List Field->Option (List KK)
 |_,[]=>some []
 |off,f::r=>
  if f.offset=off/\f.name≠ "_" then
   match kinds f.type with
   |some ks=>if zq2 P f.type=some ks.length then(z4p P kinds (off+ks.length) r).map (ks++·)else none
   |none=>none
  else none
def zp1(P:Program):Nat->TypeId->Option (List KK)
 |0,_=>none
 |n+1,t=>
  match P.underlying t with
  |some (.int _)=>some [.int]
  |some .string=>some [.str]
  |some .bool=>some [.bool]
  |some (.struct fs)=>if P.stoodInHeld t then none else z4p P (zp1 P n) 0 fs.toList
  |some (.array len el)=>
   match zp1 P n el with
   |some ks=>if zq2 P el=some ks.length then some (List.replicate len ks).flatten else none
   |none=>none
  |_=>none
def shape(P:Program)(t:TypeId)(xs:List Value):Value:=if z62 P t=some true then .agg xs.toArray else xs.headD undef
theorem zc4:∀(ks:List KK)(ds:List D),zda ks ds=true->ds.length=ks.length
 |[],[],_=>rfl
 |[],_::_,h=>by simp[zda]at h
 |_::_,[],h=>by simp[zda]at h
 |_::r,_::q,h=>by simp only[zda,Bool.and_eq_true]at h;simp[zc4 r q h.2]
theorem zlb:∀(k1 k2:List KK)(ds:List D),zda (k1++k2) ds=true->zda k1 (ds.take k1.length)=true/\zda k2 (ds.drop k1.length)=true
 |[],_,_,h=>⟨rfl,h⟩
 |_::_,_,[],h=>by simp[zda]at h
 |_::r,k2,_::q,h=>by
  simp only[List.cons_append,zda,Bool.and_eq_true]at h;obtain⟨h1,h2⟩:=zlb r k2 q h.2;exact⟨by simp[zda,h.1,h1],by simpa using h2⟩
theorem z35:∀(n:Nat)(a b:List D)(r:Bool),n<=a.length->n<=b.length->eqL a b=some r->∃r1 r2,eqL (a.take n) (b.take n)=some r1/\eqL (a.drop n) (b.drop n)=some r2/\r=(r1&&r2)
 |0,a,b,r,_,_,h=>⟨true,r,by simp[eqL],by simpa using h,by simp⟩
 |n+1,[],b,r,h1,_,_=>by simp at h1
 |n+1,_::_,[],r,_,h2,_=>by simp at h2
 |n+1,x::a,y::b,r,h1,h2,h=>by
  simp only[eqL]at h
  split at h
  ·rename_i p q hp hq;obtain rfl:=Option.some.inj h;obtain⟨r1,r2,k1,k2,rfl⟩:=z35 n a b q (by simpa using h1) (by simpa using h2) hq
   refine⟨p&&r1,r2,?_,?_,by simp[Bool.and_assoc]⟩
   ·simp[eqL,hp,k1]
   simpa using k2
  cases h
theorem ynw{n:Nat}{t:TypeId}{ks:List KK}(h:zp1 P n t=some ks):z62 P t=some true\/(z62 P t=some false/\ks.length=1):=by
 cases n with
 |zero=>simp[zp1]at h
 |succ n=>
  simp only[zp1]at h
  split at h<;>rename_i hu<;>simp only[z62,hu,Option.map_some]
  ·obtain rfl:=Option.some.inj h;simp
  ·obtain rfl:=Option.some.inj h;simp
  ·obtain rfl:=Option.some.inj h;simp
  ·simp
  ·simp
  cases h
theorem z8d [Clk]{n:Nat}{t:TypeId}{ks:List KK}(h:zp1 P n t=some ks)(hz:zq2 P t=some ks.length)(xs:Array Value)(off:Nat)(hl:off+ks.length<=xs.size)(w:World):
  (part t xs off).run P w=.ok (shape P t (win xs.toList off ks.length)) w:=by
 rcases ynw h with ha|⟨ha,h1⟩
 ·refine zvc (n:=some ks.length) (by simp[zti,ha,hz]) ?_ w;simp[zy9,hl,shape,ha]
 refine zvc (n:=none) (by simp[zti,ha]) ?_ w;have hlt:off<xs.size:=by omega
 simp[zy9,shape,ha,win,h1,hlt,List.headD_eq_head?_getD,List.head?_take,List.head?_drop]
theorem yvh [Clk]{w:World}{Im:Nat->Nat->Prop}{kk:KK}{x y:D}{vx vy:Value}{t:TypeId}{r:Bool}(d:Nat)(hx:DR w Im x vx)(hy:DR w Im y vy)(kx:zjd kk x=true)(ky:zjd kk y=true)(h:eqD x y=some r)
  (ht:(∃k,P.underlying t=some (.int k)/\kk=.int)\/(P.underlying t=some .string/\kk=.str)\/(P.underlying t=some .bool/\kk=.bool))(w':World):(Op.equalIn (d+1) t vx vy).run P w'=.ok r w':=by
 rcases ht with⟨k,hu,rfl⟩|⟨hu,rfl⟩|⟨hu,rfl⟩
 ·cases x<;>simp[zjd]at kx;cases y<;>simp[zjd]at ky;obtain rfl:=hx;obtain rfl:=hy;simp only[eqD]at h
  split at h
  ·rename_i e;subst e;obtain rfl:=Option.some.inj h;rw[run_equalIn_int w' d t _ k _ _ hu]
   rfl
  cases h
 ·cases x<;>simp[zjd]at kx;cases y<;>simp[zjd]at ky;obtain rfl:=hx;obtain rfl:=hy;simp only[eqD,Option.some.injEq]at h;subst h;rw[run_equalIn_string w' d t _ _ hu];simp[ByteArray.toList_eq]
 cases x<;>simp[zjd]at kx;cases y<;>simp[zjd]at ky;obtain rfl:=hx;obtain rfl:=hy;simp only[eqD,Option.some.injEq]at h;subst h;rw[run_equalIn_bool' w' d t _ _ hu]
theorem z34 [Clk]{kinds:TypeId->Option (List KK)}{w:World}{Im:Nat->Nat->Prop}(d:Nat)(w':World)
  (hpart:∀t ks,kinds t=some ks->zq2 P t=some ks.length->∀(xs:Array Value)off,off+ks.length<=xs.size->(part t xs off).run P w'=.ok (shape P t (win xs.toList off ks.length)) w')
  (ih:∀t ks,kinds t=some ks->∀a b xs ys r,DRs w Im a xs->DRs w Im b ys->zda ks a=true->zda ks b=true->eqL a b=some r->(Op.equalIn d t (shape P t xs) (shape P t ys)).run P w'=.ok r w')
  (X Y:Array Value):∀(fs:List Field)(off:Nat)(ks:List KK)(a b:List D)(r:Bool),z4p P kinds off fs=some ks->off+ks.length<=X.size->off+ks.length<=Y.size->
   DRs w Im a (win X.toList off ks.length)->DRs w Im b (win Y.toList off ks.length)->zda ks a=true->zda ks b=true->eqL a b=some r->(Op.eqFields d X Y fs).run P w'=.ok r w'
 |[],off,ks,a,b,r,h,_,_,_,_,ka,kb,he=>by
  simp only[z4p,Option.some.injEq]at h;subst h;cases a<;>simp[zda]at ka;cases b<;>simp[zda]at kb;simp only[eqL,Option.some.injEq]at he;subst he;simp[Op.eqFields]
 |f::fs,off,ks,a,b,r,h,hX,hY,ha,hb,ka,kb,he=>by
  simp only[z4p]at h
  split at h
  ·rename_i hf;obtain⟨hoff,hname⟩:=hf
   split at h
   ·rename_i k1 hk
    split at h
    ·rename_i hz;simp only[Option.map_eq_some_iff]at h;obtain⟨k2,h2,rfl⟩:=h;simp only[List.length_append]at hX hY ha hb;obtain⟨ka1,ka2⟩:=zlb k1 k2 a ka;obtain⟨kb1,kb2⟩:=zlb k1 k2 b kb;have la:=zc4 _ _ ka;have lb:=zc4 _ _ kb;simp only[List.length_append]at la lb;obtain⟨r1,r2,e1,e2,rfl⟩:=z35 k1.length a b r (by omega) (by omega) he
     have wt:∀(Z:Array Value),(win Z.toList off (k1.length+k2.length)).take k1.length=win Z.toList off k1.length:=by
      intro Z;simp[win,List.take_take]
     have wd:∀(Z:Array Value),(win Z.toList off (k1.length+k2.length)).drop k1.length=win Z.toList (off+k1.length) k2.length:=by
      intro Z;simp[win,List.drop_take,List.drop_drop]
     have p1:=hpart f.type k1 hk hz X off (by omega);have p2:=hpart f.type k1 hk hz Y off (by omega);have q:=ih f.type k1 hk _ _ _ _ r1 (wt X▸DRs.take k1.length _ _ ha) (wt Y▸DRs.take k1.length _ _ hb) ka1 kb1 e1;have rest:=z34 d w' hpart ih X Y fs (off+k1.length) k2 _ _ r2 h2 (by omega) (by omega) (wd X▸DRs.drop k1.length _ _ ha) (wd Y▸DRs.drop k1.length _ _ hb) ka2 kb2 e2;simp only[Op.eqFields,hname,ne_eq,not_false_eq_true,if_true,Sem.run_bind,hoff,p1,p2,q,Result.andThen_ok]
     cases r1
     ·simp
     simpa using rest
    cases h
   cases h
  cases h
theorem z7h [Clk]{w:World}{Im:Nat->Nat->Prop}(d:Nat)(w':World)(el:TypeId)(k1:List KK)
  (hpart:∀(xs:Array Value)off,off+k1.length<=xs.size->(part el xs off).run P w'=.ok (shape P el (win xs.toList off k1.length)) w')
  (ih:∀a b xs ys r,DRs w Im a xs->DRs w Im b ys->zda k1 a=true->zda k1 b=true->eqL a b=some r->(Op.equalIn d el (shape P el xs) (shape P el ys)).run P w'=.ok r w')
  (X Y:Array Value):∀(n i:Nat)(a b:List D)(r:Bool),i*k1.length+n*k1.length<=X.size->i*k1.length+n*k1.length<=Y.size->
   DRs w Im a (win X.toList (i*k1.length) (n*k1.length))->DRs w Im b (win Y.toList (i*k1.length) (n*k1.length))->zda (List.replicate n k1).flatten a=true->zda (List.replicate n k1).flatten b=true->eqL a b=some r->
   (Op.eqItems d el k1.length X Y (List.range' i n)).run P w'=.ok r w'
 |0,i,a,b,r,_,_,_,_,ka,kb,he=>by
  cases a<;>simp[zda]at ka;cases b<;>simp[zda]at kb;simp only[eqL,Option.some.injEq]at he;subst he;simp[Op.eqItems]
 |n+1,i,a,b,r,hX,hY,ha,hb,ka,kb,he=>by
  rw[List.replicate_succ,List.flatten_cons]at ka kb;obtain⟨ka1,ka2⟩:=zlb _ _ a ka;obtain⟨kb1,kb2⟩:=zlb _ _ b kb;have la:=zc4 _ _ ka;have lb:=zc4 _ _ kb;simp only[List.length_append]at la lb;obtain⟨r1,r2,e1,e2,rfl⟩:=z35 k1.length a b r (by omega) (by omega) he;have hm:(n+1)*k1.length=k1.length+n*k1.length:=by rw[Nat.succ_mul];omega
  have hm':(i+1)*k1.length=i*k1.length+k1.length:=Nat.succ_mul _ _;rw[hm]at hX hY ha hb
  have wt:∀(Z:Array Value),(win Z.toList (i*k1.length) (k1.length+n*k1.length)).take k1.length=win Z.toList (i*k1.length) k1.length:=by
   intro Z;simp[win,List.take_take]
  have wd:∀(Z:Array Value),(win Z.toList (i*k1.length) (k1.length+n*k1.length)).drop k1.length=win Z.toList ((i+1)*k1.length) (n*k1.length):=by
   intro Z;simp[win,List.drop_take,List.drop_drop,hm']
  have p1:=hpart X (i*k1.length) (by omega);have p2:=hpart Y (i*k1.length) (by omega);have q:=ih _ _ _ _ r1 (wt X▸DRs.take k1.length _ _ ha) (wt Y▸DRs.take k1.length _ _ hb) ka1 kb1 e1;have rest:=z7h d w' el k1 hpart ih X Y n (i+1) _ _ r2 (by rw[hm'];omega) (by rw[hm'];omega) (wd X▸DRs.drop k1.length _ _ ha) (wd Y▸DRs.drop k1.length _ _ hb) ka2 kb2 e2;simp only[List.range'_succ,Op.eqItems,Sem.run_bind,p1,p2,q,Result.andThen_ok]
  cases r1
  ·simp
  simpa using rest
theorem z2h [Clk]{w:World}{Im:Nat->Nat->Prop}(w':World):∀(n:Nat)(t:TypeId)(ks:List KK),zp1 P n t=some ks->∀d,n<=d->∀(a b:List D)(xs ys:List Value)(r:Bool),DRs w Im a xs->DRs w Im b ys->
  zda ks a=true->zda ks b=true->eqL a b=some r->(Op.equalIn d t (shape P t xs) (shape P t ys)).run P w'=.ok r w'
 |0,t,ks,h,_,_,_,_,_,_,_,_,_,_,_,_=>by simp[zp1]at h
 |n+1,t,ks,h,d,hd,a,b,xs,ys,r,ha,hb,ka,kb,he=>by
  obtain⟨d,rfl⟩:∃d',d=d'+1:=⟨d-1,by omega⟩
  have h0:=h;simp only[zp1]at h
  have leaf:∀kk,ks=[kk]->z62 P t=some false->((∃k,P.underlying t=some (.int k)/\kk=.int)\/(P.underlying t=some .string/\kk=.str)\/(P.underlying t=some .bool/\kk=.bool))->
    (Op.equalIn (d+1) t (shape P t xs) (shape P t ys)).run P w'=.ok r w':=by
   intro kk hk hag ht;subst hk;have la:=zc4 _ _ ka;have lb:=zc4 _ _ kb
   match a,b,la,lb with
   |[x],[y],_,_=>
    obtain⟨vx,xs',rfl,_,hx,hxs⟩:=ha;obtain⟨vy,ys',rfl,_,hy,hys⟩:=hb;simp only[zda,Bool.and_true]at ka kb
    have he':eqD x y=some r:=by
     simp only[eqL]at he
     split at he
     ·rename_i p q hp hq;simp only[Option.some.injEq]at he hq;subst hq;simp at he;subst he;exact hp
     cases he
    simpa[shape,hag]using yvh d hx hy ka kb he' ht w'
  split at h
  ·rename_i k hu;exact leaf .int (by simpa using h.symm) (by simp[z62,hu]) (.inl ⟨k,hu,rfl⟩)
  ·rename_i hu;exact leaf .str (by simpa using h.symm) (by simp[z62,hu]) (.inr (.inl ⟨hu,rfl⟩))
  ·rename_i hu;exact leaf .bool (by simpa using h.symm) (by simp[z62,hu]) (.inr (.inr ⟨hu,rfl⟩))
  ·rename_i fs hu
   split at h
   ·cases h
   rename_i hst;have hag:z62 P t=some true:=by simp[z62,hu]
   have hfs:P.fieldsOf t=fs:=by simp[Program.fieldsOf,hu]
   simp only[shape,hag,if_true];rw[run_equalIn_struct w' d t _ _ (by rw[hfs];exact hu) (by simpa using hst),hfs];have lx:=(DRs.length _ _ ha).symm.trans (zc4 _ _ ka);have ly:=(DRs.length _ _ hb).symm.trans (zc4 _ _ kb)
   refine z34 (w:=w) (Im:=Im) (kinds:=zp1 P n) d w' (λt ks hk hz X off hl=>z8d hk hz X off hl w') (λt ks hk a b xs ys r h1 h2 h3 h4 h5=>z2h w' n t ks hk d (by omega) a b xs ys r h1 h2 h3 h4 h5)
    _ _ fs.toList 0 ks a b r h (by simp[lx]) (by simp[ly]) ?_ ?_ ka kb he
   ·simpa[win,<-lx]using ha
   simpa[win,<-ly]using hb
  ·rename_i len el hu
   split at h
   ·rename_i k1 hk
    split at h
    ·rename_i hz;obtain rfl:=Option.some.inj h;have hag:z62 P t=some true:=by simp[z62,hu]
     simp only[shape,hag,if_true]
     obtain⟨i,hi,his⟩:∃i,P.info? el=some i/\i.size=k1.length:=by
      simpa only[zq2,Option.map_eq_some_iff]using hz
     have hc:P.cellsOf el=k1.length:=by simp[Program.cellsOf,hi,his]
     rw[run_equalIn_array w' d _ _ hu hi,hc];have hfl:(List.replicate len k1).flatten.length=len*k1.length:=by simp
     have lx:=((DRs.length _ _ ha).symm.trans (zc4 _ _ ka)).trans hfl;have ly:=((DRs.length _ _ hb).symm.trans (zc4 _ _ kb)).trans hfl;rw[List.range_eq_range']
     refine z7h (w:=w) (Im:=Im) d w' el k1 (λX off hl=>z8d hk hz X off hl w') (λa b xs ys r h1 h2 h3 h4 h5=>z2h w' n el k1 hk d (by omega) a b xs ys r h1 h2 h3 h4 h5)
      _ _ len 0 a b r (by simp[lx]) (by simp[ly]) ?_ ?_ ka kb he
     ·simpa[win,<-lx]using ha
     simpa[win,<-ly]using hb
    cases h
   cases h
  cases h
def yuy(P:Program)(t:TypeId):Bool:=match P.underlying t with|some .bool=>true|_=>false
theorem yq4{t:TypeId}(h:yuy P t=true):P.underlying t=some .bool:=by
 unfold yuy at h;split at h<;>first|assumption|cases h
def yvt(P:Program)(gl:Globs)(o:Oper)(ks:Option (List KK))(neg:Bool)(x y:Opd):Bool:=
 match o.op with
 |.binOp op t a b _=>
  (op==(if neg then .neq else .eql))&&okX gl a x&&okX gl b y&&
   (match ks with
   |none=>yuy P t
   |some ks=>decide (z62 P t=some true)&&decide (zp1 P 100 t=some ks)&& !P.eqGuardType P.depth t)
 |_=>false
theorem ypx [Clk](hs:Sim oc gl s)(he:zc9 s e A.tmps){ks:Option (List KK)}{neg:Bool}{x y:Opd}{r:Bool}(ok:yvt P gl o ks neg x y=true)(h:eqV ks (x.ev e) (y.ev e)=some r):
  ze9 P oc gl s A o (.d (.bool (if neg then !r else r))) s.m:=by
 unfold yvt at ok;split at ok<;>try cases ok
 rename_i op t a b t2 ho;simp only[Bool.and_eq_true,beq_iff_eq]at ok;obtain⟨⟨⟨rfl,okx⟩,oky⟩,hty⟩:=ok;have h1:=zbg hs he okx;have h2:=zbg hs he oky;generalize x.ev e=v at h1 h;generalize y.ev e=u at h2 h;refine zbq hs (x:=.bool (if neg then !r else r)) ?_ rfl;unfold eqV at h
 split at h
 ·split at h
  ·rename_i p q;simp only[Option.some.injEq]at h;subst h;have ha:A.eval a=.bool p:=h1;have hb:A.eval b=.bool q:=h2;have hu:=yq4 hty;have hg:∀op,(eqGuard op t a b (.bool p) (.bool q)).run P s.w=.ok () s.w:=λop=>by cases op<;>rfl
   have he1:(Op.equalIn 10000 t (.bool p) (.bool q)).run P s.w=.ok (p==q) s.w:=run_equalIn_bool' s.w 9999 t p q hu;cases neg<;>simp[execOp,ho,ha,hb,hg,binOp,Op.equal,Op.maxDepth,he1]
  cases h
 rename_i ks
 split at h
 ·rename_i p q
  split at h
  ·rename_i hk;simp only[Bool.and_eq_true]at hk;obtain⟨xs,hxs,hd1⟩:=h1;obtain⟨ys,hys,hd2⟩:=h2;simp only[Bool.and_eq_true,decide_eq_true_eq,Bool.not_eq_true']at hty;obtain⟨⟨hag,hks⟩,hgt⟩:=hty;have he1:=z2h (P:=P) (w:=s.w) (Im:=s.Im) s.w 100 t ks hks 10000 (by omega) p q xs.toList ys.toList r hd1 hd2 hk.1 hk.2 h;simp only[shape,hag,if_true]at he1;have hg:=λop=>run_eqGuard_agg (P:=P) s.w op t a b xs ys hgt
   cases neg
   ·simp[execOp,ho,hxs,hys,hg,run_eql_struct,he1]
   simp[execOp,ho,hxs,hys,hg,run_neq_struct,he1]
  cases h
 cases h
def y0d(P:Program)(t:TypeId)(v:Value):Option Nat:=
 match P.underlying t,v with
 |some (.pointer _),.pointer none=>some 0
 |some (.interface _),.nilIface=>some 1
 |some (.slice _),.slice none _ _=>some 2
 |some (.map _ _),.map none=>some 3
 |some (.func _ _ _),.nilFunc=>some 4
 |_,_=>none
def ygb(P:Program)(gl:Globs)(o:Oper)(kd:Nat)(neg:Bool)(x:Opd):Bool:=
 match o.op with
 |.binOp op t a (.const v) _=>okX gl a x&&(y0d P t v==some kd)&&(op==(if neg then .neq else .eql))
 |_=>false
theorem yvr(hs:Sim oc gl s){v:V}{x:Value}{k:Nat}{b:Bool}(hv:VR s v x)(h:yn5 s.m v=some (k,b)):
  (k=0/\((b=true/\x=.pointer none)\/(b=false/\∃a,x=.pointer (some a))))\/(k=1/\((b=true/\x=.nilIface)\/(b=false/\∃te pe,x=.iface te pe)))\/(k=2/\b=false/\∃a n c,x=.slice (some a) n c)\/(k=3/\b=true/\x=.map none)\/
  (k=4/\((b=true/\x=.nilFunc)\/(b=false/\∃f c d,x=.func f c d))):=by
 unfold yn5 at h
 split at h
 ·cases h;exact .inl ⟨rfl,.inl ⟨rfl,hv⟩⟩
 ·cases h;exact .inr (.inr (.inr (.inr ⟨rfl,.inl ⟨rfl,hv⟩⟩)))
 ·cases h;exact .inr (.inl ⟨rfl,.inl ⟨rfl,hv⟩⟩)
 ·cases h
  rcases hv with⟨h0,_⟩|hv
  ·cases h0
  exact .inr (.inl ⟨rfl,.inr ⟨rfl,hv⟩⟩)
 ·cases h;exact .inr (.inr (.inr (.inl ⟨rfl,rfl,hv⟩)))
 ·cases h;exact .inr (.inr (.inr (.inr ⟨rfl,.inr ⟨rfl,_,_,_,hv⟩⟩)))
 ·cases h;obtain⟨a,cap,hx,_,hc⟩:=hv
  rcases hc with⟨h0,_⟩|⟨b',q,rfl,_⟩
  ·omega
  exact .inr (.inr (.inl ⟨rfl,rfl,_,_,_,hx⟩))
 ·cases h;obtain⟨xs,ys,hx,_⟩:=hv;exact .inr (.inr (.inr (.inr ⟨rfl,.inr ⟨rfl,_,_,_,hx⟩⟩)))
 ·cases h;obtain⟨b',q,hx,_⟩:=hv;exact .inl ⟨rfl,.inr ⟨rfl,_,hx⟩⟩
 ·split at h
  ·rename_i hsu;cases h;obtain⟨b',q,hx⟩:=yhg hv hsu;exact .inl ⟨rfl,.inr ⟨rfl,_,hx⟩⟩
  cases h
 ·rename_i i off len top
  split at h
  ·rename_i wr t sz n xs hl
   split at h
   ·rename_i hc;obtain⟨rfl,hle,hl0⟩:=hc;cases h;have h2:=hv.2;rw[hl]at h2;obtain⟨hz,ys,hown,hd,him⟩:=hs.objs i _ hl;refine .inr (.inr (.inl ⟨rfl,rfl,?_⟩))
    rcases h2.2 rfl with⟨rfl,rfl,hx⟩|⟨hne,b,cap,capp,hp,_,_,hlc,hx⟩|⟨hne,_,h0,a,c,hx⟩
    ·rcases hown.2 with⟨hp,h0⟩|⟨g,cap,cur,hp,_⟩
     ·exact absurd h0 hl0
     exact⟨_,_,_,hx.trans hp⟩
    ·exact⟨_,_,_,hx⟩
    exact absurd h0 hl0
   cases h
  cases h
 cases h
theorem yg6 [Clk](hs:Sim oc gl s)(he:zc9 s e A.tmps){kd:Nat}{neg:Bool}{x:Opd}{r:Bool}(ok:ygb P gl o kd neg x=true)(h:yn5 s.m (x.ev e)=some (kd,r)):ze9 P oc gl s A o (.d (.bool (if neg then !r else r))) s.m:=by
 unfold ygb at ok;split at ok<;>try cases ok
 rename_i op t a v t2 ho;simp only[Bool.and_eq_true,beq_iff_eq]at ok;obtain⟨⟨okx,hk⟩,rfl⟩:=ok;have h1:=zbg hs he okx;have hv:=yvr hs h1 h;refine zbq hs (x:=.bool (if neg then !r else r)) ?_ rfl;have hb:A.eval (.const v)=v:=rfl
 have key:∀va,A.eval a=va->(∀op,(eqGuard op t a (.const v) va v).run P s.w=.ok () s.w)->(∀d,(Op.equalIn (d+1) t va v).run P s.w=.ok r s.w)->
   (∀op,op=.eql\/op=.neq->binOp op t va v=(do let q <-Op.equal t va v;pure (.bool (if op=.eql then q else !q))))->(execOp A.eval o).run P s.w=.ok (.value (.bool (if neg then !r else r))) s.w:=by
  intro va ha hg he1 hbo;have he2:=he1 9999
  cases neg
  ·have:=hbo .eql (.inl rfl);simp[execOp,ho,ha,hb,hg,this,Op.equal,Op.maxDepth,he2]
  have:=hbo .neq (.inr rfl);simp[execOp,ho,ha,hb,hg,this,Op.equal,Op.maxDepth,he2]
 unfold y0d at hk;split at hk
 all_goals try(cases hk;done)
 all_goals cases hk
 all_goals rename_i hu
 all_goals rcases hv with⟨e,hv⟩|⟨e,hv⟩|⟨e,rfl,q,n,c,hv⟩|⟨e,rfl,hv⟩|⟨e,hv⟩
 all_goals first|(cases e;done)|skip
 ·rcases hv with⟨rfl,hv⟩|⟨rfl,q,hv⟩
  ·exact key _ hv (λop=>by cases op<;>rfl) (λd=>by simp[Op.equalIn,run_underlying hu]) (λop hop=>by rcases hop with rfl|rfl<;>rfl)
  exact key _ hv (λop=>by cases op<;>rfl) (λd=>by simp[Op.equalIn,run_underlying hu]) (λop hop=>by rcases hop with rfl|rfl<;>rfl)
 ·rcases hv with⟨rfl,hv⟩|⟨rfl,te,pe,hv⟩
  ·exact key _ hv (λop=>by cases op<;>simp[eqGuard]) (λd=>by simp[Op.equalIn,run_underlying hu]) (λop hop=>by rcases hop with rfl|rfl<;>rfl)
  exact key _ hv (λop=>by cases op<;>simp[eqGuard]) (λd=>by simp[Op.equalIn,run_underlying hu]) (λop hop=>by rcases hop with rfl|rfl<;>rfl)
 ·exact key _ hv (λop=>by cases op<;>rfl) (λd=>by simp[Op.equalIn,run_underlying hu]) (λop hop=>by rcases hop with rfl|rfl<;>rfl)
 ·exact key _ hv (λop=>by cases op<;>rfl) (λd=>by simp[Op.equalIn,run_underlying hu]) (λop hop=>by rcases hop with rfl|rfl<;>rfl)
 rcases hv with⟨rfl,hv⟩|⟨rfl,f,c,d,hv⟩
 ·exact key _ hv (λop=>by cases op<;>rfl) (λd=>by simp[Op.equalIn,run_underlying hu]) (λop hop=>by rcases hop with rfl|rfl<;>rfl)
 exact key _ hv (λop=>by cases op<;>rfl) (λd=>by simp[Op.equalIn,run_underlying hu]) (λop hop=>by rcases hop with rfl|rfl<;>rfl)
end
end Go.Evl
namespace Go.Evl
open Go.RowKit
section
variable{P:Program}{oc:zel}{gl:Globs}{s:S}{A:Act}{o:Oper}{e:Env}
theorem z99 [Clk](hs:Sim oc gl s)(i:Id)(hi:look s.m i=none)(o':Ob)(p:Value)(obj:Obj)(hp:blk p=some s.w.heap.size)
  (ho:Ext (λ_=>True) s ⟨λk=>if i=k then p else s.φ k,upd s.m i o',s.w.alloc obj,s.Im⟩->ObR oc ⟨λk=>if i=k then p else s.φ k,upd s.m i o',s.w.alloc obj,s.Im⟩ p o'):
  Sim oc gl ⟨λk=>if i=k then p else s.φ k,upd s.m i o',s.w.alloc obj,s.Im⟩/\Ext (λ_=>True) s ⟨λk=>if i=k then p else s.φ k,upd s.m i o',s.w.alloc obj,s.Im⟩:=
 hs.change i _ _ _ s.Im rfl Tk.of rfl (by simp) (λb hb _=>heap_alloc_old _ _ _ hb) (λ_ _ h=>h)
  (λb j hj=>World.cell?_of_block (heap_alloc_old _ _ _ (hs.imlt b j hj))) (λ_ _ h=>.inl h) (λb j h=>Nat.lt_of_lt_of_le (hs.imlt b j h) (by simp))
  (λb h=>by rw[hp]at h;obtain rfl:=Option.some.inj h;exact .inl (Nat.le_refl _)) (λo h=>by rw[hi]at h;cases h) ho
def z92:Obj->Bool
 |.cells ..=>true
 |_=>false
theorem ybt{w:World}{b:Nat}{x:Obj}(h:w.heap[b]?=some x)(hx:z92 x=false)(j:Nat):w.cell? ⟨b,j,none⟩=none:=by
 unfold World.cell?;simp only[h];cases x<;>simp[z92]at hx<;>rfl
theorem zu8 [Clk](hs:Sim oc gl s)(i:Id)(o o':Ob)(hi:look s.m i=some o)(hg:o≠.gone)(b:Nat)(p:Value)(hp:s.φ i=p)(hb:blk p=some b)(x obj:Obj)(hx:s.w.heap[b]?=some x)(hxc:z92 x=false)(hoc:z92 obj=false)
  (ht:zbd o o' p p)
  (ho:Ext (λ_=>True) s ⟨λk=>if i=k then p else s.φ k,upd s.m i o',{s.w with heap:=s.w.heap.setIfInBounds b obj},s.Im⟩->
   ObR oc ⟨λk=>if i=k then p else s.φ k,upd s.m i o',{s.w with heap:=s.w.heap.setIfInBounds b obj},s.Im⟩ p o'):
  Sim oc gl ⟨λk=>if i=k then p else s.φ k,upd s.m i o',{s.w with heap:=s.w.heap.setIfInBounds b obj},s.Im⟩/\
  Ext (λ_=>True) s ⟨λk=>if i=k then p else s.φ k,upd s.m i o',{s.w with heap:=s.w.heap.setIfInBounds b obj},s.Im⟩:=by
 have hlt:b<s.w.heap.size:=(Array.getElem?_eq_some_iff.1 hx).1;have hoth:∀c,c≠b->(s.w.heap.setIfInBounds b obj)[c]?=s.w.heap[c]?:=λc h=>by simp[Ne.symm h]
 have hnew:(s.w.heap.setIfInBounds b obj)[b]?=some obj:=by simp[hlt]
 refine hs.change i o' p _ s.Im rfl Tk.of rfl (by simp) (λc hc hne=>hoth c λe=>?_) (λ_ _ h=>h) (λc j hj=>?_) (λ_ _ h=>.inl h) (λc j h=>by simpa using hs.imlt c j h)
  (λc h=>.inr ⟨⟨o,hi,hg⟩,by rw[hp];exact h⟩) (λo2 h=>?_) ho
 ·subst e;exact hne ⟨o,hi,hg⟩ (by rw[hp];exact hb)
 ·by_cases e:c=b
  ·subst e;rw[ybt (w:={s.w with heap:=s.w.heap.setIfInBounds c obj}) hnew hoc j,ybt hx hxc j]
  exact World.cell?_of_block (hoth c e)
 rw[hi]at h;obtain rfl:=Option.some.inj h;rw[hp];exact ht
def yf9(o:Oper):Bool:=
 match o.op with
 |.makeMap _ none=>true
 |_=>false
theorem yg4 [Clk](hs:Sim oc gl s)(cx:Cx)(slot:Nat)(ok:yf9 o=true):ze9 P oc gl s A o (.mp (newId cx slot s.m)) (upd s.m (newId cx slot s.m) (.map [])):=by
 unfold yf9 at ok;split at ok<;>try cases ok
 rename_i t ho
 obtain⟨k1,k2⟩:=z99 hs (newId cx slot s.m) (zed _ _ _) (.map []) (.map (some s.w.heap.size)) (.map #[] 0) rfl
  (λ_=>⟨s.w.heap.size,#[],0,rfl,heap_alloc_new _ _,.inl rfl,λ_ h=>(by cases h),List.nodup_nil,List.nodup_nil⟩)
 refine⟨_,.map (some s.w.heap.size),?_,k1,k2,rfl,?_⟩
 ·simp[execOp,ho,Instr.makeMap,run_newObj]
 refine⟨rfl,?_⟩;show MpR _ _ (look (upd s.m (newId cx slot s.m) (.map [])) _);rw[zbh];simp[MpR]
def yk6:Bool->KK
 |true=>.str
 |false=>.int
def zyy(P:Program)(f:Field):Bool:=f.name != "_" &&(match P.underlying f.type with|some (.int _)=>true|some .string=>true|_=>false)&&zti P f.type none
def yvg(P:Program)(t:TypeId):Bool:=(match P.underlying t with|some (.int _)=>true|some .string=>true|_=>false)&&zti P t none
def kkP(P:Program)(t:TypeId)(kk:KK):Bool:=
 match P.underlying t,kk with
 |some (.int _),.int=>true
 |some .string,.str=>true
 |some .bool,.bool=>true
 |some (.struct fs),.rc l=>decide (zp1 P 100 t=some (l.map yk6))&&fs.toList.all λf=>zyy P f&&decide (f.offset<l.length)
 |some (.array len el),.rc l=>decide (zp1 P 100 t=some (l.map yk6))&&(yvg P el&&decide (zq2 P el=some 1)&&decide (len=l.length))
 |_,_=>false
def yt6:KK->Bool
 |.rc _=>false
 |_=>true
def mapP(P:Program)(t:TypeId):Option (TypeId×TypeId):=
 match P.underlying t with
 |some (.map k v)=>some (k,v)
 |_=>none
theorem z96{t:TypeId}{r:TypeId×TypeId}(h:mapP P t=some r):P.underlying t=some (.map r.1 r.2):=by
 unfold mapP at h
 split at h
 ·rename_i hu;obtain rfl:=Option.some.inj h;exact hu
 cases h
theorem yrv [Clk]{t:TypeId}{kk:KK}(hp:yt6 kk=true)(h:kkP P t kk=true):∃d,P.underlying t=some d/\
  (∀(w:World)(em:Bool)(n:Nat)(v:Value),(Instr.checkKey em (n+1) t v).run P w=.ok () w)/\
  (∀(w:World)(Im:Nat->Nat->Prop)(x y:D)(v u:Value)(r:Bool),zjd kk x=true->DR w Im x v->DR w Im y u->eqD x y=some r->Instr.sameNow d v u=some r/\(r=true->v=u/\x=y)):=by
 unfold kkP at h
 split at h<;>first|(cases h;done)|(cases hp;done)|skip
 ·rename_i k hu;refine⟨_,hu,λw em n v=>by simp[Instr.checkKey,run_underlying hu],λw Im x y v u r hx hv hu he=>?_⟩;cases x<;>simp[zjd]at hx;cases y<;>simp[eqD]at he;obtain rfl:=hv;obtain rfl:=hu;obtain⟨rfl,rfl⟩:=he;refine⟨by simp[Instr.sameNow];rfl,λh=>?_⟩;simp at h;subst h;exact⟨rfl,rfl⟩
 ·rename_i hu;refine⟨_,hu,λw em n v=>by simp[Instr.checkKey,run_underlying hu],λw Im x y v u r hx hv hu he=>?_⟩;cases x<;>simp[zjd]at hx;cases y<;>simp[eqD]at he;obtain rfl:=hv;obtain rfl:=hu;subst he;refine⟨by simp[Instr.sameNow,beq_toListBytes,ByteArray.toList_eq],λh=>?_⟩;simp at h;subst h;exact⟨rfl,rfl⟩
 rename_i hu;refine⟨_,hu,λw em n v=>by simp[Instr.checkKey,run_underlying hu],λw Im x y v u r hx hv hu he=>?_⟩;cases x<;>simp[zjd]at hx;cases y<;>simp[eqD]at he;obtain rfl:=hv;obtain rfl:=hu;subst he;refine⟨by simp[Instr.sameNow],λh=>?_⟩;simp at h;subst h;exact⟨rfl,rfl⟩
theorem yk5{kk:KK}{x:D}(h:zjd kk x=true):y0b x:=by
 cases kk<;>cases x<;>simp[zjd]at h<;>trivial
def zjc(same:Value->Option Bool):List MapEntry->Nat->Option (Option (Nat×Value))
 |[],_=>some none
 |e::es,i=>
  match same e.key with
  |some true=>some (some (i,e.val))
  |some false=>zjc same es (i+1)
  |none=>none
theorem ycg(d:TypeDesc)(v:Value):∀(q:List MapEntry)(i:Nat),zjc (Instr.sameNow d v) q i=Instr.findNow d v q i
 |[],_=>rfl
 |e::es,i=>by
  simp only[zjc,Instr.findNow];cases Instr.sameNow d v e.key with
  |none=>rfl
  |some b=>cases b with
   |true=>rfl
   |false=>exact ycg d v es (i+1)
theorem zpw:∀(l:List Bool)(a:List D),zrs l a=true->zda (l.map yk6) a=true
 |[],[],_=>rfl
 |true::l,.str _::r,h=>by simpa[zda,yk6,zjd]using zpw l r h
 |false::l,.int ..::r,h=>by simpa[zda,yk6,zjd]using zpw l r h
theorem z9m:∀(l:List Bool)(a b:List D)(r:Bool),zrs l a=true->eqL a b=some r->zrs l b=true/\(r=true->a=b)
 |[],[],[],_,_,_=>⟨rfl,λ_=>rfl⟩
 |[],[],_::_,_,_,h=>by simp[eqL]at h
 |true::l,.str s::a,[],_,_,h=>by simp[eqL]at h
 |false::l,.int k s::a,[],_,_,h=>by simp[eqL]at h
 |true::l,.str s::a,y::b,r,hl,h=>by
  simp only[eqL]at h
  split at h
  ·rename_i p q hp hq;obtain rfl:=Option.some.inj h;cases y<;>simp[eqD]at hp;obtain⟨h1,h2⟩:=z9m l a b q hl hq;refine⟨h1,λe=>?_⟩;simp only[Bool.and_eq_true]at e;obtain⟨e1,e2⟩:=e;subst e1;obtain rfl:=h2 e2;simp at hp;rw[hp]
  cases h
 |false::l,.int k s::a,y::b,r,hl,h=>by
  simp only[eqL]at h
  split at h
  ·rename_i p q hp hq;obtain rfl:=Option.some.inj h;cases y<;>simp[eqD]at hp;obtain⟨rfl,hp⟩:=hp;obtain⟨h1,h2⟩:=z9m l a b q hl hq;refine⟨h1,λe=>?_⟩;simp only[Bool.and_eq_true]at e;obtain⟨e1,e2⟩:=e;subst e1;obtain rfl:=h2 e2;simp at hp;rw[hp]
  cases h
theorem z8y{w:World}{Im:Nat->Nat->Prop}:∀(l:List Bool)(a:List D)(xs ys:List Value),zrs l a=true->DRs w Im a xs->DRs w Im a ys->xs=ys
 |[],[],_,_,_,hx,hy=>by simp only[DRs]at hx hy;rw[hx,hy]
 |true::l,.str _::a,_,_,hl,hx,hy=>by
  obtain⟨x,xs,rfl,_,hx1,hx2⟩:=hx;obtain⟨y,ys,rfl,_,hy1,hy2⟩:=hy;rw[show x=y from Eq.trans hx1 (Eq.symm hy1),z8y l a xs ys hl hx2 hy2]
 |false::l,.int ..::a,_,_,hl,hx,hy=>by
  obtain⟨x,xs,rfl,_,hx1,hx2⟩:=hx;obtain⟨y,ys,rfl,_,hy1,hy2⟩:=hy;rw[show x=y from Eq.trans hx1 (Eq.symm hy1),z8y l a xs ys hl hx2 hy2]
theorem z4q [Clk]{f:Field}(h:zyy P f=true):f.name≠ "_" /\zti P f.type none=true/\∀(w:World)(em:Bool)(n:Nat)(v:Value),(Instr.checkKey em (n+1) f.type v).run P w=.ok () w:=by
 unfold zyy at h;simp only[Bool.and_eq_true,bne_iff_ne,ne_eq]at h;obtain⟨⟨h1,h2⟩,h3⟩:=h;refine⟨h1,h3,λw em n v=>?_⟩
 split at h2
 ·rename_i hu;simp[Instr.checkKey,run_underlying hu]
 ·rename_i hu;simp[Instr.checkKey,run_underlying hu]
 cases h2
theorem yfu [Clk]{t:TypeId}(h:yvg P t=true):zti P t none=true/\∀(w:World)(em:Bool)(n:Nat)(v:Value),(Instr.checkKey em (n+1) t v).run P w=.ok () w:=by
 unfold yvg at h;simp only[Bool.and_eq_true]at h;refine⟨h.2,λw em n v=>?_⟩;have h2:=h.1
 split at h2
 ·rename_i hu;simp[Instr.checkKey,run_underlying hu]
 ·rename_i hu;simp[Instr.checkKey,run_underlying hu]
 cases h2
theorem rcP [Clk]{t:TypeId}{l:List Bool}(h:kkP P t (.rc l)=true):∃d,P.underlying t=some d/\z62 P t=some true/\zp1 P 100 t=some (l.map yk6)/\(∀xs v,Instr.sameNow d (.agg xs) v=none)/\
  ∀(xs:Array Value),xs.size=l.length->∀(w:World)(em:Bool),(Instr.checkKey em 10000 t (.agg xs)).run P w=.ok () w:=by
 unfold kkP at h
 split at h
 ·rename_i e;cases e
 ·rename_i e;cases e
 ·rename_i e;cases e
 ·rename_i fs l' hu e;cases e;simp only[Bool.and_eq_true,decide_eq_true_eq]at h;obtain⟨hkd,hfs⟩:=h;refine⟨_,hu,by simp[z62,hu],hkd,λ_ _=>by simp[Instr.sameNow],λxs hsz w em=>?_⟩;rw[show 10000=9999+1 from rfl,Instr.checkKey];simp only[Sem.run_bind,run_underlying hu,Result.andThen_ok];rw[<-Array.forIn_toList]
  have deep:∀f∈fs.toList,zyy P f=true/\f.offset<xs.size:=λf hf=>by
   have:=List.all_eq_true.1 hfs f hf;simp only[Bool.and_eq_true,decide_eq_true_eq]at this;exact⟨this.1,by omega⟩
  generalize fs.toList=L at deep;induction L with
  |nil=>simp
  |cons f L ih=>
   obtain⟨h1,h2⟩:=deep f (by simp);obtain⟨hn,hc,hck⟩:=z4q h1;have p1:=zvc (P:=P) (off:=f.offset) (xs:=xs) hc (y:=xs[f.offset]) (by simp[zy9,h2]) w;simp only[List.forIn_cons,Sem.run_bind,hn,ne_eq,not_false_eq_true,if_true,Result.andThen_ok,p1,hck w em 9998,Sem.run_pure];exact ih (λy hy=>deep y (by simp[hy]))
 ·rename_i len el l' hu e;cases e;simp only[Bool.and_eq_true,decide_eq_true_eq]at h;obtain⟨hkd,⟨hlf,hsz1⟩,hlen⟩:=h;refine⟨_,hu,by simp[z62,hu],hkd,λ_ _=>by simp[Instr.sameNow],λxs hsz w em=>?_⟩;rw[show 10000=9999+1 from rfl,Instr.checkKey];simp only[Sem.run_bind,run_underlying hu,Result.andThen_ok];obtain⟨hc,hck⟩:=yfu hlf;rw[Std.Legacy.Range.forIn_eq_forIn_range']
  have deep:∀i∈List.range' 0 len,i<xs.size:=λi hi=>by
   rw[List.mem_range'_1]at hi;omega
  simp only[Std.Legacy.Range.size,Nat.sub_zero,Nat.add_sub_cancel,Nat.div_one];generalize List.range' 0 len=L at deep;induction L with
  |nil=>simp
  |cons i L ih=>
   have h2:=deep i (by simp);have p1:=zvc (P:=P) (off:=i*1) (xs:=xs) hc (y:=xs[i]) (by simp[zy9,h2]) w;simp only[List.forIn_cons,Sem.run_bind,zhz hsz1,Result.andThen_ok,p1,hck w em 9998,Sem.run_pure];exact ih (λy hy=>deep y (by simp[hy]))
 cases h
theorem zyo [Clk]{w:World}{t:TypeId}{v:Value}{same:Value->Option Bool}(hs:∀(u:Value)(b:Bool),same u=some b->(Op.equal t v u).run P w=.ok b w):∀(q:List MapEntry)(i:Nat)(r:Option (Nat×Value)),zjc same q i=some r->(Instr.findAsking t v q i).run P w=.ok r w
 |[],_,r,h=>by
  simp only[zjc,Option.some.injEq]at h;subst h
  rfl
 |e::es,i,r,h=>by
  simp only[zjc]at h
  split at h
  ·rename_i he;obtain rfl:=Option.some.inj h;simp only[Instr.findAsking,Sem.run_bind,hs _ _ he,Result.andThen_ok,if_true,Sem.run_pure]
  ·rename_i he;have:=zyo hs es (i+1) r h;simpa only[Instr.findAsking,Sem.run_bind,hs _ _ he,Result.andThen_ok,Bool.false_eq_true,if_false]using this
  cases h
open Classical in
theorem zyx [Clk]{t:TypeId}{kk:KK}(h:kkP P t kk=true){w:World}{Im:Nat->Nat->Prop}{x:D}{v:Value}(hx:zjd kk x=true)(hv:DR w Im x v):∃same:Value->Option Bool,
  (∀(y:D)(u:Value)(r:Bool),DR w Im y u->eqD x y=some r->same u=some r/\(r=true->v=u/\x=y))/\
  (∀(q:List MapEntry)(r:Option (Nat×Value)),zjc same q 0=some r->(Instr.findKey t v q).run P w=.ok r w)/\
  (∀em:Bool,(Instr.checkKey em 10000 t v).run P w=.ok () w):=by
 cases hk:yt6 kk with
 |true=>
  obtain⟨d,hd,hck,hsame⟩:=yrv hk h;exact⟨Instr.sameNow d v,λy u r hu he=>hsame w Im x y v u r hx hv hu he,λq r hq=>MapKept.run_findKey hd (by rw[<-ycg];exact hq),λem=>hck w em 9999 v⟩
 |false=>
  cases kk<;>first|(cases hk;done)|skip
  rename_i l;obtain⟨d,hu,hag,hkd,hnow,hckk⟩:=rcP h;cases x<;>simp[zjd]at hx;rename_i a;obtain⟨xs,rfl,hxs⟩:=hv;have ka:=zpw l a hx
  have hsz:xs.size=l.length:=by
   have h1:=DRs.length _ _ hxs;have h2:=zc4 _ _ ka;rw[List.length_map]at h2;simp at h1;omega
  have heq:∀(y:D)(u:Value)(r:Bool),DR w Im y u->eqD (.agg a) y=some r->(Op.equal t (.agg xs) u).run P w=.ok r w/\(r=true->(.agg xs:Value)=u/\(.agg a:D)=y):=by
   intro y u r hy he;cases y<;>simp[eqD]at he;rename_i b;obtain⟨ys,rfl,hys⟩:=hy;obtain⟨hb,hab⟩:=z9m l a b r hx he;have:=z2h (P:=P) w 100 t _ hkd 10000 (by decide) a b _ _ r hxs hys ka (zpw l b hb) he;simp only[shape,hag,if_true]at this;refine⟨by simpa[Op.equal,Op.maxDepth]using this,λe=>?_⟩;obtain rfl:=hab e;have:=z8y l a _ _ hx hxs hys;exact⟨by rw[Array.toList_inj.1 this],rfl⟩
  obtain⟨same,hsm⟩:∃same:Value->Option Bool,∀(u:Value)(b:Bool),same u=some b↔(Op.equal t (.agg xs) u).run P w=.ok b w:=by
   refine⟨λu=>if(Op.equal t (.agg xs) u).run P w=.ok true w then some true else if(Op.equal t (.agg xs) u).run P w=.ok false w then some false else none,λu b=>?_⟩
   by_cases h1:(Op.equal t (.agg xs) u).run P w=.ok true w
   ·simp only[h1];cases b<;>simp
   by_cases h2:(Op.equal t (.agg xs) u).run P w=.ok false w
   ·simp only[h2];cases b<;>simp
   simp only[h1,h2]
   cases b
   ·simp[h2]
   simp[h1]
  refine⟨same,λy u r hy he=>⟨(hsm u r).2 (heq y u r hy he).1,(heq y u r hy he).2⟩,λq r hq=>?_,λem=>?_⟩
  ·cases q with
   |nil=>
    simp only[zjc,Option.some.injEq]at hq;subst hq;exact MapKept.run_findKey hu rfl
   |cons e es=>
    have:=zyo (P:=P) (λu b hb=>(hsm u b).1 hb) _ _ _ hq;have hn:Instr.findNow d (.agg xs) (e::es) 0=none:=by simp[Instr.findNow,hnow]
    simp only[Instr.findKey,Sem.run_bind,run_underlying hu,Result.andThen_ok,hn];exact this
  exact hckk xs hsz w em
theorem yib{same:Value->Option Bool}{x:D}{v:Value}
  (hd:∀(y:D)(u:Value)(r:Bool),DR s.w s.Im y u->eqD x y=some r->same u=some r/\(r=true->v=u/\x=y)):
  ∀(es:List (D×V))(q:List MapEntry)(i:Nat)(r:Option V),zq4 s es q->zii x es=some r->
   (r=none/\zjc same q i=some none)\/(∃y j u,r=some y/\zjc same q i=some (some (j,u))/\VR s y u)
 |[],_,i,r,hm,h=>by
  obtain rfl:=hm;simp[zii]at h;subst h;exact .inl ⟨rfl,rfl⟩
 |(k,y)::es,_,i,r,hm,h=>by
  obtain⟨en,q,rfl,_,hk,hy,hrest⟩:=hm;simp only[zii]at h
  split at h
  ·rename_i he;obtain rfl:=Option.some.inj h;have:=(hd k en.key true hk he).1;exact .inr ⟨y,i,en.val,rfl,by simp[zjc,this],hy⟩
  ·rename_i he;have:=(hd k en.key false hk he).1;simp only[zjc,this];exact yib hd es q (i+1) r hrest h
  cases h
theorem zuw{same:Value->Option Bool}:∀(q:List MapEntry)(i:Nat),(∀e∈q,same e.key=some false)->zjc same q i=some none
 |[],_,_=>rfl
 |e::q,i,h=>by
  simp only[zjc,h e (by simp)];exact zuw q (i+1) λx hx=>h x (by simp[hx])
theorem zua{same:Value->Option Bool}{v:Value}(hv:same v=some true):∀(q:List MapEntry)(i:Nat),(∀e∈q,e.key≠v->same e.key=some false)->(q.map (·.key)).Nodup->∀en∈q,en.key=v->∃j,zjc same q i=some (some (i+j,en.val))/\q[j]?=some en
 |[],_,_,_,en,h,_=>by cases h
 |e::q,i,h,hn,en,hen,hk=>by
  simp only[List.map_cons,List.nodup_cons]at hn
  by_cases he:e.key=v
  ·have:en=e:=by
    rcases List.mem_cons.1 hen with h1|h1
    ·exact h1
    exact absurd (List.mem_map.2 ⟨en,h1,hk.trans he.symm⟩) hn.1
   subst this;exact⟨0,by simp[zjc,he,hv],rfl⟩
  have hm:en∈q:=by
   rcases List.mem_cons.1 hen with h1|h1
   ·exact absurd (h1▸hk) he
   exact h1
  obtain⟨j,h1,h2⟩:=zua hv q (i+1) (λx hx=>h x (by simp[hx])) hn.2 en hm hk;refine⟨j+1,?_,by simpa using h2⟩;simp only[zjc,h e (by simp) he];rw[h1,show i+1+j=i+(j+1)by omega]
theorem zyp{same:Value->Option Bool}{x:D}{v:Value}
  (hd:∀(y:D)(u:Value)(r:Bool),DR s.w s.Im y u->eqD x y=some r->same u=some r/\(r=true->v=u/\x=y)):
  ∀(es:List (D×V))(q:List MapEntry)(r:Option V),yqv es->zq4 s es q->zii x es=some r->
   (r=none/\∀e∈q,same e.key=some false)\/(∃y en,r=some y/\en∈q/\en.key=v/\same v=some true/\VR s y en.val/\∀e∈q,e.key≠v->same e.key=some false)
 |[],_,r,_,hm,h=>by
  obtain rfl:=hm;simp[zii]at h;subst h;exact .inl ⟨rfl,λe he=>by cases he⟩
 |(k,y)::es,_,r,hdk,hm,h=>by
  obtain⟨en,q,rfl,_,hk,hy,hrest⟩:=hm;obtain⟨hd1,hd2⟩:=List.pairwise_cons.1 hdk;simp only[zii]at h
  split at h
  ·rename_i he;obtain rfl:=Option.some.inj h;obtain⟨h1,h2⟩:=hd k en.key true hk he;obtain⟨h3,h4⟩:=h2 rfl;refine .inr ⟨y,en,rfl,by simp,h3.symm,by rw[h3];exact h1,hy,λe hemem hne=>?_⟩
   rcases List.mem_cons.1 hemem with rfl|hemem
   ·exact absurd h3.symm hne
   have key:∀(es:List (D×V))(q:List MapEntry),(∀b∈es,eqD k b.1=some false)->zq4 s es q->∀e∈q,same e.key=some false:=by
    intro es;induction es with
    |nil=>intro q _ hm e he;simp only[zq4]at hm;subst hm;cases he
    |cons b es ih=>
     intro q hb hm e he;obtain⟨e1,q1,rfl,_,g1,_,g3⟩:=hm
     rcases List.mem_cons.1 he with rfl|he
     ·exact(hd b.1 e.key false g1 (by rw[h4];exact hb b (by simp))).1
     exact ih q1 (λc hc=>hb c (by simp[hc])) g3 e he
   exact key es q (λb hb=>(hd1 b hb).1) hrest e hemem
  ·rename_i he;have h1:=(hd k en.key false hk he).1
   rcases zyp hd es q r hd2 hrest h with⟨g1,g2⟩|⟨y',en',g1,g2,g3,g4,g5,g6⟩
   ·refine .inl ⟨g1,λe hemem=>?_⟩
    rcases List.mem_cons.1 hemem with rfl|hemem
    ·exact h1
    exact g2 e hemem
   refine .inr ⟨y',en',g1,by simp[g2],g3,g4,g5,λe hemem hne=>?_⟩
   rcases List.mem_cons.1 hemem with rfl|hemem
   ·exact h1
   exact g6 e hemem hne
  cases h
theorem z9s{same:Value->Option Bool}{x:D}{v:Value}
  (hd:∀(y:D)(u:Value)(r:Bool),DR s.w s.Im y u->eqD x y=some r->same u=some r/\(r=true->v=u/\x=y))(es:List (D×V))(q:List MapEntry)(i:Nat)(r:Option V)(hm:zut s es q)(h:zii x es=some r):
   (r=none/\zjc same q i=some none)\/(∃y j u,r=some y/\zjc same q i=some (some (j,u))/\VR s y u):=by
 rcases hm with hm|⟨hdk,hn,q',hp,hm⟩
 ·exact yib hd es q i r hm h
 rcases zyp hd es q' r hdk hm h with⟨g1,g2⟩|⟨y,en,g1,g2,g3,g4,g5,g6⟩
 ·exact .inl ⟨g1,zuw q i λe he=>g2 e (hp.mem_iff.2 he)⟩
 obtain⟨j,k1,_⟩:=zua g4 q i (λe he=>g6 e (hp.mem_iff.2 he)) hn en (hp.mem_iff.1 g2) g3;exact .inr ⟨y,i+j,en.val,g1,k1,g5⟩
def z2m(P:Program)(gl:Globs)(o:Oper)(kk:KK)(zero:D)(ok:Bool)(x key:Opd):Bool:=
 match o.op with
 |.lookup t a b c=>c==ok&&okX gl a x&&okX gl b key&&
  (match mapP P t with
  |some (k,v)=>kkP P k kk&&(match(P.info? v).bind (·.zero)with|some z=>zk2 zero z|none=>false)
  |none=>false)
 |_=>false
theorem z5s [Clk](hs:Sim oc gl s)(he:zc9 s e A.tmps){kk:KK}{zero:D}{c:Bool}{x key:Opd}{v:V}(ok:z2m P gl o kk zero c x key=true)(h:zqu kk zero c s.m (x.ev e) (key.ev e)=some v):zjl P s A o v:=by
 unfold z2m at ok;split at ok<;>try cases ok
 rename_i t a b c' ho;simp only[Bool.and_eq_true,beq_iff_eq]at ok;obtain⟨⟨⟨rfl,okx⟩,okk⟩,hty⟩:=ok;split at hty<;>try cases hty
 rename_i kt vt hmt;simp only[Bool.and_eq_true]at hty;obtain⟨hkk,hz⟩:=hty;split at hz<;>try cases hz
 rename_i z hzz;have hu:=z96 hmt;have h1:=zbg hs he okx;have h2:=zbg hs he okk;generalize x.ev e=vx at h1 h;generalize key.ev e=vk at h2 h
 obtain⟨info,hinfo,hiz⟩:∃i,P.info? vt=some i/\i.zero=some z:=by
  simpa only[Option.bind_eq_some_iff]using hzz
 have hzr:∀w,(zeroValue vt).run P w=.ok z w:=λw=>by simp[zeroValue,typeInfo,hinfo,hiz]
 have hzd:DR s.w s.Im zero z:=zt5 _ _ _ _ hz;unfold zqu at h;split at h<;>try cases h
 rename_i kd;split at h<;>try cases h
 rename_i hkey;obtain⟨same,hsame,hfind,hck⟩:=zyx hkk hkey h2
 have fin:∀(q:List MapEntry)(es:List (D×V))(r:Option V),zut s es q->zii kd es=some r->
   ((Instr.findKey kt (A.eval b) q).run P s.w=.ok none s.w/\r=none)\/(∃j u y,(Instr.findKey kt (A.eval b) q).run P s.w=.ok (some (j,u)) s.w/\r=some y/\VR s y u):=by
  intro q es r hm hf
  rcases z9s hsame es q 0 r hm hf with⟨rfl,hfn⟩|⟨y,j,u,rfl,hfn,hvu⟩
  ·exact .inl ⟨hfind _ _ hfn,rfl⟩
  exact .inr ⟨j,u,y,hfind _ _ hfn,rfl,hvu⟩
 have vnone:VR s (yt4 zero c' none) (if c' then Value.tuple #[z,.bool false]else z):=by
  cases c'
  ·simpa[yt4,VR]using hzd
  exact⟨_,rfl,z,_,rfl,hzd,.bool false,[],rfl,rfl,rfl⟩
 have vsome:∀y u,VR s y u->VR s (yt4 zero c' (some y)) (if c' then Value.tuple #[u,.bool true]else u):=by
  intro y u hvu
  cases c'
  ·simpa[yt4]using hvu
  exact⟨_,rfl,u,_,rfl,hvu,.bool true,[],rfl,rfl,rfl⟩
 split at h
 ·rename_i i;split at h<;>try cases h
  rename_i es hl;simp only[Option.map_eq_some_iff]at h;obtain⟨r,hf,rfl⟩:=h;obtain⟨bm,ces,clock,hp,hh,hm,_⟩:=hs.objs i _ hl
  have hx:A.eval a=.map (some bm):=by
   have:=h1.2;rw[hl]at this;exact this.trans hp
  rcases fin ces.toList es r hm hf with⟨hr,rfl⟩|⟨j,u,y,hr,rfl,hv⟩
  ·exact zjl.mk (by simp[execOp,ho,Instr.lookup,run_underlying hu,hx,MapKept.run_getObj_map hh,hck,hr,hzr]) vnone
  exact zjl.mk (by simp[execOp,ho,Instr.lookup,run_underlying hu,hx,MapKept.run_getObj_map hh,hck,hr]) (vsome y u hv)
 ·obtain rfl:=Option.some.inj h;have hx:A.eval a=.map none:=h1
  rcases fin [] [] none (.inl rfl) rfl with⟨hr,_⟩|⟨j,u,y,_,hc,_⟩
  ·exact zjl.mk (by simp[execOp,ho,Instr.lookup,run_underlying hu,hx,hck,hr,hzr]) vnone
  cases hc
 cases h
theorem ydz [Clk](hs:Sim oc gl s)(he:zc9 s e A.tmps){kk:KK}{zero:D}{c:Bool}{x key:Opd}{v:V}(ok:z2m P gl o kk zero c x key=true)(h:zqu kk zero c s.m (x.ev e) (key.ev e)=some v):ze9 P oc gl s A o v s.m:=(z5s hs he ok h).to hs
theorem z9n:∀(l:List Bool)(a:List D),zrs l a=true->eqL a a=some true
 |[],[],_=>rfl
 |true::l,.str _::a,h=>by simp[eqL,eqD,z9n l a h]
 |false::l,.int ..::a,h=>by simp[eqL,eqD,z9n l a h]
theorem z33{kk:KK}{x:D}(h:zjd kk x=true):eqD x x=some true:=by
 cases kk<;>cases x<;>simp[zjd]at h
 ·simp[eqD]
 ·simp[eqD]
 ·simp[eqD]
 exact z9n _ _ h
theorem zv7.push{ces:Array MapEntry}{clock:Nat}(h:zv7 ces clock){v u:Value}(hv:∀e∈ces.toList,e.key≠v):zv7 (ces.push {key:=v,val:=u,born:=clock}) (clock+1):=by
 obtain⟨h1,h2,h3⟩:=h
 refine⟨λx hx=>?_,?_,?_⟩
 ·simp only[Array.toList_push,List.mem_append,List.mem_singleton]at hx
  rcases hx with hx|rfl
  ·have:=h1 x hx;omega
  exact Nat.lt_succ_self _
 ·simp only[Array.toList_push,List.map_append,List.map_cons,List.map_nil];refine List.nodup_append.2 ⟨h2,by simp,λa ha b hb=>?_⟩;obtain⟨x,hx,rfl⟩:=List.mem_map.1 ha;have:=h1 x hx;rw[List.mem_singleton.1 hb];omega
 simp only[Array.toList_push,List.map_append,List.map_cons,List.map_nil];refine List.nodup_append.2 ⟨h3,by simp,λa ha b hb=>?_⟩;obtain⟨x,hx,rfl⟩:=List.mem_map.1 ha;rw[List.mem_singleton.1 hb];exact hv x hx
theorem zv7.modify{ces:Array MapEntry}{clock:Nat}(h:zv7 ces clock){v u:Value}{j:Nat}(hj:(ces.toList[j]?).map (·.key)=some v):zv7 (ces.modify j λe=>{e with key:=v,val:=u}) clock:=by
 obtain⟨h1,h2,h3⟩:=h
 have hb:(ces.modify j λe=>{e with key:=v,val:=u}).toList.map (·.born)=ces.toList.map (·.born):=by
  refine List.ext_getElem? λi=>?_
  simp only[List.getElem?_map,Array.getElem?_toList,Array.getElem?_modify]
  split
  ·cases ces[i]? <;>rfl
  rfl
 have hk:(ces.modify j λe=>{e with key:=v,val:=u}).toList.map (·.key)=ces.toList.map (·.key):=by
  refine List.ext_getElem? λi=>?_
  simp only[List.getElem?_map,Array.getElem?_toList,Array.getElem?_modify]
  split
  ·rename_i e;subst e;rw[Array.getElem?_toList]at hj;cases hc:ces[j]? with
   |none=>rfl
   |some x=>
    rw[hc]at hj;simp only[Option.map_some,Option.some.injEq]at hj⊢;exact hj.symm
  rfl
 refine⟨λx hx=>?_,by rw[hb];exact h2,by rw[hk];exact h3⟩;have:x.born∈(ces.modify j λe=>{e with key:=v,val:=u}).toList.map (·.born):=List.mem_map.2 ⟨x,hx,rfl⟩;rw[hb]at this;obtain⟨y,hy,e⟩:=List.mem_map.1 this;rw[<-e];exact h1 y hy
theorem yau{kk:KK}{same:Value->Option Bool}{x:D}{v:Value}(hx:zjd kk x=true)(hv:DR s.w s.Im x v)
  (hd:∀(y:D)(u:Value)(r:Bool),DR s.w s.Im y u->eqD x y=some r->same u=some r/\(r=true->v=u/\x=y))(y:V)(u:Value)(hy:VR s y u):
  ∀(es:List (D×V))(q:List MapEntry)(i:Nat)(es':List (D×V)),zq4 s es q->setE x y es=some es'->
   (zjc same q i=some none/\(∀born,zq4 s es' (q++[{key:=v,val:=u,born}]))/\∀e∈q,e.key≠v)\/
   (∃j old,zjc same q i=some (some (i+j,old))/\(q[j]?).map (·.key)=some v/\zq4 s es' (q.modify j λe=>{e with key:=v,val:=u}))
 |[],_,i,es',hm,h=>by
  obtain rfl:=hm;simp[setE]at h;subst h;exact .inl ⟨rfl,λborn=>⟨_,[],rfl,yk5 hx,hv,hy,rfl⟩,λ_ h=>by cases h⟩
 |(k,z)::es,_,i,es',hm,h=>by
  obtain⟨en,q,rfl,hkd,hk,hz,hrest⟩:=hm;simp only[setE]at h
  split at h
  ·rename_i he;obtain rfl:=Option.some.inj h;obtain⟨h1,h2⟩:=hd k en.key true hk he;obtain⟨h3,rfl⟩:=h2 rfl;refine .inr ⟨0,en.val,by simp[zjc,h1],by simp[h3],?_⟩;exact⟨_,q,rfl,hkd,hv,hy,hrest⟩
  ·rename_i he;simp only[Option.map_eq_some_iff]at h;obtain⟨es2,h2,rfl⟩:=h;have h1:=(hd k en.key false hk he).1;simp only[zjc,h1]
   rcases yau hx hv hd y u hy es q (i+1) es2 hrest h2 with⟨k1,k2,k4⟩|⟨j,old,k1,k2,k3⟩
   ·refine .inl ⟨k1,λborn=>⟨en,_,rfl,hkd,hk,hz,k2 born⟩,λe he=>?_⟩
    rcases List.mem_cons.1 he with rfl|he
    ·intro e2;have hself:=(hd x v true hv (z33 hx)).1;rw[e2,hself]at h1;cases h1
    exact k4 e he
   refine .inr ⟨j+1,old,by rw[k1];congr 3;omega,by simpa using k2,?_⟩;exact⟨en,_,rfl,hkd,hk,hz,k3⟩
  cases h
mutual
theorem z9k:∀a b:D,eqD a b=eqD b a
 |.int k a,b=>by
  cases b<;>simp only[eqD];rename_i l b
  by_cases h:k=l
  ·subst h;simp[eq_comm]
  rw[if_neg h,if_neg (Ne.symm h)]
 |.bool a,b=>by cases b<;>simp only[eqD];rename_i b;cases a<;>cases b<;>rfl
 |.str a,b=>by cases b<;>simp only[eqD];rename_i b;rw[BEq.comm]
 |.agg a,b=>by cases b<;>simp only[eqD];exact yh7 _ _
 |.nil,b=>by cases b<;>simp only[eqD]
 |.list _ _,b=>by cases b<;>simp only[eqD]
 |.nilp,b=>by cases b<;>simp only[eqD]
 |.nilf,b=>by cases b<;>simp only[eqD]
 |.nili,b=>by cases b<;>simp only[eqD]
 |.ifc _,b=>by cases b<;>simp only[eqD]
 |.nilm,b=>by cases b<;>simp only[eqD]
 |.fn _,b=>by cases b<;>simp only[eqD]
theorem yh7:∀a b:List D,eqL a b=eqL b a
 |[],[]=>rfl
 |[],_::_=>rfl
 |_::_,[]=>rfl
 |x::r,y::q=>by
  simp only[eqL];rw[z9k x y,yh7 r q]
end
theorem ydt{x:D}{y:V}:∀(es es':List (D×V)),setE x y es=some es'->es'.map (·.1)=es.map (·.1)\/(es'.map (·.1)=es.map (·.1)++[x]/\∀b∈es,eqD x b.1=some false)
 |[],es',h=>by
  simp only[setE,Option.some.injEq]at h;subst h;exact .inr ⟨rfl,λb hb=>by cases hb⟩
 |(k,v)::es,es',h=>by
  simp only[setE]at h
  split at h
  ·obtain rfl:=Option.some.inj h;exact .inl rfl
  ·rename_i he;simp only[Option.map_eq_some_iff]at h;obtain⟨es2,h3,rfl⟩:=h
   rcases ydt es es2 h3 with h4|⟨h4,h5⟩
   ·exact .inl (by simp[h4])
   refine .inr ⟨by simp[h4],λb hb=>?_⟩
   rcases List.mem_cons.1 hb with rfl|hb
   ·exact he
   exact h5 b hb
  cases h
theorem yh1{es:List (D×V)}:yqv es↔(es.map (·.1)).Pairwise λa b=>eqD a b=some false/\eqD b a=some false:=by
 unfold yqv;rw[List.pairwise_map]
theorem yj0{x:D}{y:V}{es es':List (D×V)}(hd:yqv es)(h:setE x y es=some es'):yqv es':=by
 rw[yh1]at hd⊢
 rcases ydt es es' h with e|⟨e,h2⟩
 ·rw[e];exact hd
 rw[e,List.pairwise_append];refine⟨hd,List.pairwise_singleton _ _,λa ha b hb=>?_⟩;rw[List.mem_singleton]at hb;subst hb;obtain⟨c,hc,rfl⟩:=List.mem_map.1 ha;exact⟨by rw[z9k];exact h2 c hc,h2 c hc⟩
theorem ych{x:D}{y:V}:∀(es es':List (D×V)),setE x y es=some es'->∃r,zii x es=some r
 |[],_,_=>⟨none,rfl⟩
 |(k,v)::es,es',h=>by
  simp only[setE]at h;simp only[zii]
  split at h
  ·exact⟨_,rfl⟩
  ·simp only[Option.map_eq_some_iff]at h;obtain⟨es2,h3,_⟩:=h;exact ych es es2 h3
  cases h
theorem ygj{q q':List MapEntry}(hp:q'.Perm q)(hn:(q.map (·.key)).Nodup){j j':Nat}{v:Value}(h:(q[j]?).map (·.key)=some v)(h':(q'[j']?).map (·.key)=some v)(f:MapEntry->MapEntry):(q'.modify j' f).Perm (q.modify j f):=by
 classical
 have one:∀(l:List MapEntry)(k:Nat),(l.map (·.key)).Nodup->(l[k]?).map (·.key)=some v->l.modify k f=l.map λe=>if e.key=v then f e else e:=by
  intro l;induction l with
  |nil=>intro k _ h;simp at h
  |cons a l ih=>
   intro k hn h;simp only[List.map_cons,List.nodup_cons]at hn;cases k with
   |zero=>
    have h:a.key=v:=by simpa using h
    rw[List.modify_zero_cons,List.map_cons,if_pos h];congr 1;rw[List.map_congr_left (g:=id),List.map_id];intro e he
    rw[if_neg]
    ·rfl
    intro h2;exact hn.1 (List.mem_map.2 ⟨e,he,h2.trans h.symm⟩)
   |succ k=>
    have h:(l[k]?).map (·.key)=some v:=by simpa using h
    rw[List.modify_succ_cons,List.map_cons,ih k hn.2 h,if_neg];intro h2
    obtain⟨e,he,h3⟩:∃e∈l,e.key=v:=by
     simp only[Option.map_eq_some_iff]at h;obtain⟨e,h4,h5⟩:=h;exact⟨e,List.mem_of_getElem? h4,h5⟩
    exact hn.1 (List.mem_map.2 ⟨e,he,h3.trans h2.symm⟩)
 rw[one q j hn h,one q' j' ((hp.map _).nodup_iff.2 hn) h'];exact hp.map _
theorem yc2{q:List MapEntry}(hn:(q.map (·.key)).Nodup){j:Nat}{v u:Value}(h:(q[j]?).map (·.key)=some v):((q.modify j λe=>{e with key:=v,val:=u}).map (·.key)).Nodup:=by
 have:(q.modify j λe=>{e with key:=v,val:=u}).map (·.key)=q.map (·.key):=by
  apply List.ext_getElem?;intro i;rw[List.getElem?_map,List.getElem?_map,List.getElem?_modify]
  by_cases e:j=i
  ·subst e;rw[h];simp only[Option.map_eq_some_iff]at h;obtain⟨x,h1,_⟩:=h;simp[h1]
  simp[e]
 rw[this];exact hn
theorem ypk{kk:KK}{same:Value->Option Bool}{x:D}{v:Value}(hx:zjd kk x=true)(hv:DR s.w s.Im x v)
  (hd:∀(y:D)(u:Value)(r:Bool),DR s.w s.Im y u->eqD x y=some r->same u=some r/\(r=true->v=u/\x=y))(y:V)(u:Value)(hy:VR s y u)
  (es:List (D×V))(q:List MapEntry)(i:Nat)(es':List (D×V))(hm:zut s es q)(h:setE x y es=some es'):
   (zjc same q i=some none/\(∀born,zut s es' (q++[{key:=v,val:=u,born}]))/\∀e∈q,e.key≠v)\/
   (∃j old,zjc same q i=some (some (i+j,old))/\(q[j]?).map (·.key)=some v/\zut s es' (q.modify j λe=>{e with key:=v,val:=u})):=by
 rcases hm with hm|⟨hdk,hn,q',hp,hm⟩
 ·rcases yau hx hv hd y u hy es q i es' hm h with⟨k1,k2,k3⟩|⟨j,old,k1,k2,k3⟩
  ·exact .inl ⟨k1,λb=>.inl (k2 b),k3⟩
  exact .inr ⟨j,old,k1,k2,.inl k3⟩
 have hself:=(hd x v true hv (z33 hx)).1;obtain⟨r,hr⟩:=ych es es' h
 rcases zyp hd es q' r hdk hm hr with⟨g1,g2⟩|⟨y',en,g1,g2,g3,g4,g5,g6⟩
 ·have hall:∀e∈q,same e.key=some false:=λe he=>g2 e (hp.mem_iff.2 he)
  have hne:∀e∈q,e.key≠v:=λe he e2=>by
   have:=hall e he;rw[e2,hself]at this;cases this
  rcases yau hx hv hd y u hy es q' 0 es' hm h with⟨k1,k2,_⟩|⟨j,old,k1,_,_⟩
  ·refine .inl ⟨zuw q i hall,λb=>.inr ⟨yj0 hdk h,?_,_,hp.append_right _,k2 b⟩,hne⟩;rw[List.map_append,List.nodup_append];refine⟨hn,by simp,λa ha c hc=>?_⟩;obtain⟨e,he,rfl⟩:=List.mem_map.1 ha;simp only[List.map_cons,List.map_nil,List.mem_singleton]at hc;rw[hc];exact hne e he
  rw[zuw q' 0 g2]at k1;cases k1
 obtain⟨j,k1,k2⟩:=zua g4 q i (λe he=>g6 e (hp.mem_iff.2 he)) hn en (hp.mem_iff.1 g2) g3
 rcases yau hx hv hd y u hy es q' 0 es' hm h with⟨c1,_,_⟩|⟨j',old,_,c2,c3⟩
 ·obtain⟨_,c3,_⟩:=zua g4 q' 0 g6 ((hp.map _).nodup_iff.2 hn) en g2 g3;rw[c1]at c3;cases c3
 have hk:(q[j]?).map (·.key)=some v:=by rw[k2];simp[g3]
 exact .inr ⟨j,en.val,k1,hk,.inr ⟨yj0 hdk h,yc2 hn hk,_,ygj hp hn hk c2 _,c3⟩⟩
theorem zsv{w:World}{Im:Nat->Nat->Prop}(n:Nat):∀(l:List Bool)(a:List D)(xs:List Value),zrs l a=true->DRs w Im a xs->((xs.zip xs).all λp=>Instr.sameBits n p.1 p.2)=true
 |[],[],_,_,h=>by simp only[DRs]at h;subst h;rfl
 |true::l,.str _::a,_,hl,h=>by
  obtain⟨x,xs,rfl,_,h1,h2⟩:=h;obtain rfl:=h1;have ih:=zsv n l a xs hl h2;simp[Instr.sameBits,beq_toListBytes,ih]
 |false::l,.int ..::a,_,hl,h=>by
  obtain⟨x,xs,rfl,_,h1,h2⟩:=h;obtain rfl:=h1;have ih:=zsv n l a xs hl h2;simp[Instr.sameBits,ih]
theorem zun{kk:KK}{w:World}{Im:Nat->Nat->Prop}{x:D}{v:Value}(h:zjd kk x=true)(hv:DR w Im x v)(n:Nat):Instr.sameBits (n+1) v v=true:=by
 cases kk<;>cases x<;>simp[zjd]at h
 ·obtain rfl:=hv;simp[Instr.sameBits]
 ·obtain rfl:=hv;simp[Instr.sameBits,beq_toListBytes]
 ·obtain rfl:=hv;simp[Instr.sameBits]
 obtain⟨xs,rfl,hxs⟩:=hv;have:=zsv n _ _ _ h hxs;simpa[Instr.sameBits]using this
def zp5(P:Program)(gl:Globs)(o:Oper)(kk:KK)(x key y:Opd):Bool:=
 match o.op with
 |.mapUpdate t a b c=>okX gl a x&&okX gl b key&&okX gl c y&&(match mapP P t with|some (k,_)=>kkP P k kk|none=>false)
 |.insert t a b c=>okX gl a x&&okX gl b key&&okX gl c y&&(match mapP P t with|some (k,_)=>kkP P k kk|none=>false)
 |_=>false
theorem z1d [Clk](hs:Sim oc gl s)(he:zc9 s e A.tmps){kk:KK}{x key y:Opd}{m':Mem}(ok:zp5 P gl o kk x key y=true)(h:zjz kk s.m (x.ev e) (key.ev e) (y.ev e)=some m'):ybf P oc gl s A o m':=by
 obtain⟨t,a,b,c,hex,okx,okk,oky,hty⟩:∃t a b c,execOp A.eval o=(do Instr.mapUpdate t (A.eval a) (A.eval b) (A.eval c);pure .skip)/\okX gl a x=true/\okX gl b key=true/\okX gl c y=true/\
   (match mapP P t with|some (k,_)=>kkP P k kk|none=>false)=true:=by
  unfold zp5 at ok
  split at ok<;>try cases ok
  ·rename_i t a b c ho;simp only[Bool.and_eq_true]at ok;exact⟨t,a,b,c,by simp only[execOp,ho],ok.1.1.1,ok.1.1.2,ok.1.2,ok.2⟩
  rename_i t a b c ho;simp only[Bool.and_eq_true]at ok;exact⟨t,a,b,c,by simp only[execOp,ho],ok.1.1.1,ok.1.1.2,ok.1.2,ok.2⟩
 split at hty<;>try cases hty
 rename_i kt vt hmt;have hu:=z96 hmt;have h1:=zbg hs he okx;have h2:=zbg hs he okk;have h3:=zbg hs he oky;generalize x.ev e=vx at h1 h;generalize key.ev e=vk at h2 h;generalize y.ev e=vy at h3 h;unfold zjz at h;split at h<;>try cases h
 rename_i i kd;split at h<;>try cases h
 rename_i es hl;split at h<;>try cases h
 rename_i hkey;simp only[Bool.and_eq_true]at hkey;obtain⟨same,hsame,hfind,hck⟩:=zyx hty hkey.1 h2;simp only[Option.map_eq_some_iff]at h;obtain⟨es',hset,rfl⟩:=h;obtain⟨bm,ces,clock,hp,hh,hm,hst⟩:=hs.objs i _ hl
 have hx:A.eval a=.map (some bm):=by
  have:=h1.2;rw[hl]at this;exact this.trans hp
 have done:∀(ces':Array MapEntry)(clock':Nat),zut s es' ces'.toList->zv7 ces' clock'->(Instr.mapUpdate t (A.eval a) (A.eval b) (A.eval c)).run P s.w=.ok () {s.w with heap:=s.w.heap.setIfInBounds bm (.map ces' clock')}->ybf P oc gl s A o (upd s.m i (.map es')):=by
  intro ces' clock' hm' hst' hr;have hlt:bm<s.w.heap.size:=(Array.getElem?_eq_some_iff.1 hh).1
  obtain⟨k1,k2⟩:=zu8 hs i (.map es) (.map es') hl (by simp) bm (.map (some bm)) hp rfl _ (.map ces' clock') hh rfl rfl rfl
   (λhE=>⟨bm,ces',clock',rfl,by simp[hlt],zut.ext hE es' _ hm',hst'⟩)
  exact⟨_,by rw[hex];simp[hr],k1,k2,rfl⟩
 rcases ypk hkey.1 h2 hsame vy _ h3 es ces.toList 0 es' hm hset with⟨k1,k2,k4⟩|⟨j,old,k1,k2,k3⟩
 ·refine done (ces.push {key:=A.eval b,val:=A.eval c,born:=clock}) (clock+1) (by simpa using k2 clock) (hst.push k4) ?_;have hfk:=hfind _ _ k1;simp[Instr.mapUpdate,run_underlying hu,hx,MapKept.run_getObj_map hh,hck,hfk,MapKept.run_setObj_map _ hh]
 refine done (ces.modify j λe=>{e with key:=A.eval b,val:=A.eval c}) clock (by simpa using k3) (hst.modify k2) ?_;have hfk:=hfind _ _ k1;rw[Nat.zero_add]at hfk
 have hold:((ces[j]?).map (·.key)).getD (A.eval b)=A.eval b:=by
  rw[<-Array.getElem?_toList,k2];rfl
 simp[Instr.mapUpdate,run_underlying hu,hx,MapKept.run_getObj_map hh,hck,hfk,Instr.keyThatStays,hold,zun hkey.1 h2,MapKept.run_setObj_map _ hh]
def yz6(P:Program)(t:TypeId):Bool:=match P.underlying t with|some .string=>true|_=>false
theorem ywn{t:TypeId}(h:yz6 P t=true):P.underlying t=some .string:=by
 unfold yz6 at h;split at h<;>first|assumption|cases h
def ygc(P:Program)(gl:Globs)(o:Oper)(x:Opd):Bool:=
 match o.op with
 |.range t a=>okX gl a x&&yz6 P t
 |_=>false
theorem yg8 [Clk](hs:Sim oc gl s)(he:zc9 s e A.tmps)(cx:Cx)(slot:Nat){x:Opd}{str:List UInt8}(ok:ygc P gl o x=true)(hx:x.ev e=.d (.str str)):
  ze9 P oc gl s A o (.it (newId cx slot s.m)) (upd s.m (newId cx slot s.m) (.iter str 0)):=by
 unfold ygc at ok;split at ok<;>try cases ok
 rename_i t a ho;simp only[Bool.and_eq_true]at ok;have h1:=zbg hs he ok.1;rw[hx]at h1;have h1:A.eval a=.string ⟨str.toArray⟩:=h1;have hu:=ywn ok.2
 obtain⟨k1,k2⟩:=z99 hs (newId cx slot s.m) (zed _ _ _) (.iter str 0) (.pointer (some ⟨s.w.heap.size,0,none⟩)) (.stringIter ⟨str.toArray⟩ 0) rfl
  (λ_=>⟨s.w.heap.size,rfl,heap_alloc_new _ _⟩)
 refine⟨_,.pointer (some ⟨s.w.heap.size,0,none⟩),?_,k1,k2,rfl,rfl,?_⟩
 ·simp[execOp,ho,h1,run_range_string _ _ _ hu,World.iter]
 show ItR _ _ (look (upd s.m (newId cx slot s.m) (.iter str 0)) _);rw[zbh];simp[ItR]
def yoc(gl:Globs)(o:Oper)(x:Opd):Bool:=
 match o.op with
 |.next a b=>b&&okX gl a x
 |_=>false
theorem yly [Clk](hs:Sim oc gl s)(he:zc9 s e A.tmps){x:Opd}{v:V}{m':Mem}(ok:yoc gl o x=true)(h:yr4 s.m (x.ev e)=some (v,m')):ze9 P oc gl s A o v m':=by
 unfold yoc at ok;split at ok<;>try cases ok
 rename_i a b ho;simp only[Bool.and_eq_true]at ok;obtain⟨rfl,okx⟩:=ok;have h1:=zbg hs he okx;generalize x.ev e=vx at h1 h;unfold yr4 at h;split at h<;>try cases h
 rename_i i;split at h<;>try cases h
 rename_i str pos hl;obtain⟨b,hp,hh⟩:=hs.objs i _ hl
 have hx:A.eval a=.pointer (some ⟨b,0,none⟩):=by
  have:=h1.2;rw[hl]at this;exact this.trans hp
 have hsz:(ByteArray.mk str.toArray).size=str.length:=by simp[ByteArray.size]
 split at h
 ·rename_i hlt;simp only[Option.some.injEq,Prod.mk.injEq]at h;obtain⟨rfl,rfl⟩:=h;have hlt2:b<s.w.heap.size:=(Array.getElem?_eq_some_iff.1 hh).1
  obtain⟨k1,k2⟩:=zu8 hs i (.iter str pos) (.iter str (pos+(Utf8.decode ⟨str.toArray⟩ pos).2)) hl (by simp) b _ hp rfl _ (.stringIter ⟨str.toArray⟩ (pos+(Utf8.decode ⟨str.toArray⟩ pos).2)) hh rfl rfl rfl
   (λhE=>⟨b,rfl,by simp[hlt2]⟩)
  refine⟨_,.tuple #[.bool true,.int .i64 pos,.int .i32 (Utf8.decode ⟨str.toArray⟩ pos).1],?_,k1,k2,rfl,?_⟩
  ·simp[execOp,ho,hx,Instr.next,getObj,setObj,Sem.run,hh,hsz,hlt,goInt]
  exact⟨_,rfl,.bool true,_,rfl,rfl,_,_,rfl,rfl,_,[],rfl,rfl,rfl⟩
 rename_i hlt;simp only[Option.some.injEq,Prod.mk.injEq]at h;obtain⟨rfl,rfl⟩:=h;refine zbq hs (x:=.tuple #[.bool false]) ?_ ⟨_,rfl,.bool false,[],rfl,rfl,rfl⟩;simp[execOp,ho,hx,Instr.next,getObj,Sem.run,hh,hsz,hlt]
end
end Go.Evl
namespace Go.Evl
open Go.RowKit
section
variable{P:Program}{oc:zel}{gl:Globs}{s:S}{A:Act}{o:Oper}{e:Env}
def yof(P:Program)(gl:Globs)(o:Oper)(x:Opd):Bool:=
 match o.op with
 |.convert a b y=>okX gl y x&&(match P.underlying a,P.underlying b with
  |some (.slice e),some .string=>(match P.underlying e with|some (.int .u8)=>true|_=>false)
  |_,_=>false)
 |_=>false
theorem yl1 [Clk](hs:Sim oc gl s)(he:zc9 s e A.tmps){x:Opd}(ok:yw6 gl o x=true):ze9 P oc gl s A o (x.ev e) (ypi s.m (x.ev e)):=by
 have h0:=ygv (P:=P) hs he ok;unfold ypi
 split
 ·rename_i i a b c hx
  split
  ·rename_i t sz n xs hl;obtain⟨y,hr,hv⟩:=h0;obtain⟨hz,ys,hown,hd,him⟩:=hs.objs i _ hl;have hobr:=hs.objs i _ hl
   obtain⟨k1,k2⟩:=hs.change i (.row false t sz n xs) (s.φ i) s.w (λb j=>s.Im b j\/((s.φ i).ownBlock=some b/\j<n*sz)) rfl Tk.of rfl (Nat.le_refl _) (λ_ _ _=>rfl) (λ_ _ h=>.inl h) (λ_ _ _=>rfl)
    (λb j h=>h.imp id λh=>zm9 _ _ h.1) (λb j h=>by
     rcases h with h|h
     ·exact hs.imlt b j h
     exact hobr.blk_lt (by simp) (zm9 _ _ h.1))
    (λb hb=>.inr ⟨⟨_,hl,by simp⟩,hb⟩) (λob hob=>by rw[hl]at hob;cases hob;exact⟨λh=>by simp at h,rfl,rfl,Nat.le_refl _,λ_=>rfl⟩)
    (λhE=>⟨hz,ys,hown,DRs.ext hE.im hE.keep _ _ hd,λb hb j=>⟨λh=>⟨rfl,by
     rcases h with h|h
     ·exact absurd ((him b hb j).1 h).1 (by simp)
     exact h.2⟩,λh=>.inr ⟨hb,h.2⟩⟩⟩)
   rw[zsr]at k1 k2;refine⟨⟨s.φ,upd s.m i (.row false t sz n xs),s.w,_⟩,y,hr,k1,k2,rfl,?_⟩;exact VR.ext k2 _ _ (λ_ _=>trivial) hv
  exact h0.to hs
 exact h0.to hs
theorem yl3 [Clk](hs:Sim oc gl s)(he:zc9 s e A.tmps){n:Int}{x:Opd}(ok:yof P gl o x=true)(hx:x.ev e=.d (.list 1 [.int .u8 n])):
  ze9 P oc gl s A o (.d (.str [UInt8.ofNat n.toNat])) s.m:=by
 unfold yof at ok;split at ok<;>try cases ok
 rename_i a b y ho;simp only[Bool.and_eq_true]at ok;obtain⟨ok,ht⟩:=ok;split at ht<;>try cases ht
 rename_i el ha hb;split at ht<;>try cases ht
 rename_i hel;have h1:=zbg hs he ok;rw[hx]at h1;have h1:DR s.w s.Im (.list 1 [.int .u8 n]) (A.eval y):=h1;simp only[DR]at h1;obtain⟨ad,cap,hy,_,hd⟩:=h1
 rcases hd with⟨h0,_⟩|⟨b',o',rfl,hc⟩
 ·cases h0
 simp only[CR]at hc;obtain⟨_,⟨z,hz,_,hz2⟩,_⟩:=hc;have hz2:z=.int .u8 n:=hz2;subst hz2
 have hr:=run_loadCells_list (P:=P) s.w ⟨b',o',none⟩ [.int .u8 n] (λk v hk=>by
  rw[Addr.add_lit];cases k with
  |zero=>simp only[List.getElem?_cons_zero,Option.some.injEq]at hk;subst hk;exact hz
  |succ k=>simp at hk)
 simp only[List.length_singleton]at hr;refine zbq hs (x:=.string ⟨[UInt8.ofNat n.toNat].toArray⟩) ?_ rfl;simp[execOp,ho,hy,convert,run_underlying ha,run_underlying hb,run_underlying hel,Conv.bytesToString,hr]
 rfl
def yqt(P:Program)(gl:Globs)(o:Oper):COp->Bool
 |.mv x=>yw6 gl o x
 |.ownNil r=>yae o r
 |.pick c a b=>yod gl o c a b
 |.alloc t cs=>yf4 P o t cs
 |.box t x=>yvs gl o t x
 |.build z ps=>yf5 P gl o z ps
 |.mkList sz n ps=>yvv P gl o sz n ps
 |.mkListD sz n ps=>yvv P gl o sz n ps
 |.mkRow r n ps=>yga P gl o r n ps
 |.load n a=>yc4 P gl o n a
 |.store n a x=>ygd P gl o n a x
 |.nilCheck x=>zu4 gl o x
 |.bin op x y=>yr7 gl o op x y
 |.eqv ks neg x y=>yvt P gl o ks neg x y
 |.un op x=>yz0 gl o op x
 |.conv k x=>yn8 P gl o k x
 |.mkFunc f a b=>yn9 gl o f a b
 |.sliceS x lo hi=>yaf P gl o x lo hi
 |.slice sz x lo hi mx=>z0p P gl o sz x lo hi mx
 |.fieldAddr off x=>zpd P gl o off x
 |.field off n x=>yf8 P gl o off n x
 |.idxAddr sz x i=>zy4 P gl o sz x i
 |.idxAddrA len sz x i=>z0n P gl o len sz x i
 |.idxS x i=>yob P gl o x i
 |.idxA len sz n x i=>yoa P gl o len sz n x i
 |.mkMap=>yf9 o
 |.lookup kk z c m k=>z2m P gl o kk z c m k
 |.mapSet kk m k x=>zp5 P gl o kk m k x
 |.rangeS x=>ygc P gl o x
 |.nextS x=>yoc gl o x
 |.extract x i=>z4z gl o x i
 |.call ..=>false
 |.storeR ..=>false
 |.callR ..=>false
 |.callB ..=>false
 |.bad=>true
 |.callN ..=>false
 |.callK ..=>false
 |.callQ ..=>false
 |.callU ..=>false
 |.callZ ..=>false
 |.appendZ r z a n=>z4y P gl o r z a n
 |.mapSetR ..=>false
 |.callD ..=>false
 |.appendIn r a x=>zu3 P gl o r a x
 |.loadD n a=>yc4 P gl o n a
 |.nilEq kd neg x=>ygb P gl o kd neg x
 |.idxAddrD sz x i=>zy4 P gl o sz x i
 |.fieldAddrD off x=>zpd P gl o off x
 |.sealMv x=>yw6 gl o x
 |.sliceC sz x h m=>z0p P gl o sz x none (some h) (some m)
 |.len k x=>yvu P gl o k x
 |.append r a x=>zu3 P gl o r a x
 |.appendS r a x=>z4x P gl o r a x
 |.appendF ..=>false
 |.strB x=>yof P gl o x
 |.minmax mx args=>yad gl o mx args
 |.clear z x=>yf7 P gl o z x
def yup [Clk](P:Program)(oc:zel)(gl:Globs)(s:S)(A:Act)(o:Oper)(v:V)(m':Mem):Prop:=
 ze9 P oc gl s A o v m'\/(v=.skip/\ybf P oc gl s A o m')
theorem z2v [Clk](hs:Sim oc gl s)(he:zc9 s e A.tmps)(F:Oracle)(cx:Cx)(slot:Nat){op:COp}{v:V}{m':Mem}(ok:yqt P gl o op=true)(h:zc5 F cx slot e s.m op=some (v,m')):yup P oc gl s A o v m':=by
 cases op<;>simp only[yqt]at ok<;>simp only[zc5]at h
 case mv x=>
  simp only[Option.some.injEq,Prod.mk.injEq]at h;obtain⟨rfl,rfl⟩:=h;exact .inl (ytd hs he ok)
 case mkListD sz n ps=>
  split at h
  case isFalse=>cases h
  rename_i hd;simp only[Option.map_eq_some_iff,Prod.mk.injEq]at h;obtain⟨ds,h,rfl,rfl⟩:=h;exact .inl (z1e hs he ok (z7y sz [] s.m _ ds hd h))
 case ownNil r=>
  simp only[Option.some.injEq,Prod.mk.injEq]at h;obtain⟨rfl,rfl⟩:=h;exact .inl (yd1 hs cx slot ok)
 case pick c a b=>
  split at h<;>try cases h
  exact .inl (ylz hs he ok ‹_›)
 case alloc cs=>
  simp only[Option.some.injEq,Prod.mk.injEq]at h;obtain⟨rfl,rfl⟩:=h;exact .inl (ygz hs cx slot ok)
 case box x=>
  split at h<;>try cases h
  exact .inl (ypw hs he cx slot ok ‹_›)
 case build z ps=>
  simp only[Option.map_eq_some_iff,Prod.mk.injEq]at h;obtain⟨cs,hf,rfl,rfl⟩:=h;exact .inl (yg0 hs he cx slot ok hf)
 case mkList sz n ps=>
  simp only[Option.map_eq_some_iff,Prod.mk.injEq]at h;obtain⟨cs,hf,rfl,rfl⟩:=h;exact .inl (z1e hs he ok hf)
 case mkRow r n ps=>
  simp only[Option.map_eq_some_iff,Prod.mk.injEq]at h;obtain⟨cs,hf,rfl,rfl⟩:=h;exact .inl (yg5 hs he cx slot ok hf)
 case load n a=>
  simp only[Option.map_eq_some_iff,Prod.mk.injEq]at h;obtain⟨cs,hf,rfl,rfl⟩:=h;exact .inl (z8s hs he ok hf)
 case store n a x=>
  simp only[Option.map_eq_some_iff,Prod.mk.injEq]at h;obtain⟨cs,hf,rfl,rfl⟩:=h;exact .inr ⟨rfl,yha hs he ok hf⟩
 case nilCheck x=>exact .inl (z6z hs he ok h)
 case bin op x y=>
  simp only[Option.map_eq_some_iff,Prod.mk.injEq]at h;obtain⟨cs,hf,rfl,rfl⟩:=h;exact .inl (ypv hs he ok hf)
 case eqv ks neg x y=>
  simp only[Option.map_eq_some_iff,Prod.mk.injEq]at h;obtain⟨cs,hf,rfl,rfl⟩:=h;exact .inl (ypx hs he ok hf)
 case un op x=>
  simp only[Option.map_eq_some_iff,Prod.mk.injEq]at h;obtain⟨cs,hf,rfl,rfl⟩:=h;exact .inl (yte hs he ok hf)
 case conv k x=>
  split at h<;>try cases h
  exact .inl (ylu hs he ok ‹_›)
 case mkFunc f a b=>
  simp only[Option.some.injEq,Prod.mk.injEq]at h;obtain⟨rfl,rfl⟩:=h;exact .inl (ylv hs he ok)
 case sliceS x lo hi=>
  split at h<;>try cases h
  split at h<;>try cases h
  exact .inl (yd4 hs he ok ‹_› ‹_›)
 case slice sz x lo hi mx=>
  simp only[Option.map_eq_some_iff,Prod.mk.injEq]at h;obtain⟨cs,hf,rfl,rfl⟩:=h;exact .inl (yg9 hs he ok hf)
 case fieldAddr off x=>
  simp only[Option.map_eq_some_iff,Prod.mk.injEq]at h;obtain⟨cs,hf,rfl,rfl⟩:=h;exact .inl (zuo hs he ok hf)
 case field off n x=>
  simp only[Option.map_eq_some_iff,Prod.mk.injEq]at h;obtain⟨cs,hf,rfl,rfl⟩:=h;exact .inl (yg3 hs he ok hf)
 case idxAddr sz x i=>
  simp only[Option.map_eq_some_iff,Prod.mk.injEq]at h;obtain⟨cs,hf,rfl,rfl⟩:=h;exact .inl (zze hs he ok hf)
 case idxAddrA len sz x i=>
  split at h<;>try cases h
  split at h<;>try cases h
  simp only[Option.map_eq_some_iff,Prod.mk.injEq]at h;obtain⟨cs,hf,rfl,rfl⟩:=h;exact .inl (z6y hs he ok ‹_› ‹_› hf)
 case idxS x i=>
  split at h<;>try cases h
  split at h<;>try cases h
  simp only[Option.map_eq_some_iff,Prod.mk.injEq]at h;obtain⟨cs,hf,rfl,rfl⟩:=h;exact .inl (ylx hs he ok ‹_› ‹_› ‹_› hf)
 case idxA len sz n x i=>
  split at h<;>try cases h
  split at h<;>try cases h
  simp only[Option.map_eq_some_iff,Prod.mk.injEq]at h;obtain⟨cs,hf,rfl,rfl⟩:=h;exact .inl (ylw hs he ok ‹_› ‹_› hf)
 case mkMap=>
  simp only[Option.some.injEq,Prod.mk.injEq]at h;obtain⟨rfl,rfl⟩:=h;exact .inl (yg4 hs cx slot ok)
 case lookup kk z c m k=>
  simp only[Option.map_eq_some_iff,Prod.mk.injEq]at h;obtain⟨cs,hf,rfl,rfl⟩:=h;exact .inl (ydz hs he ok hf)
 case mapSet kk m k x=>
  simp only[Option.map_eq_some_iff,Prod.mk.injEq]at h;obtain⟨cs,hf,rfl,rfl⟩:=h;exact .inr ⟨rfl,z1d hs he ok hf⟩
 case rangeS x=>
  split at h<;>try cases h
  exact .inl (yg8 hs he cx slot ok ‹_›)
 case nextS x=>exact .inl (yly hs he ok h)
 case extract x i=>
  split at h<;>try cases h
  simp only[Option.map_eq_some_iff,Prod.mk.injEq]at h;obtain⟨cs,hf,rfl,rfl⟩:=h;exact .inl (ya0 hs he ok ‹_› hf)
 case call=>cases ok
 case storeR=>cases ok
 case callR=>cases ok
 case callB=>cases ok
 case bad=>cases h
 case callN=>cases ok
 case callK=>cases ok
 case callQ=>cases ok
 case callU=>cases ok
 case callZ=>cases ok
 case appendZ r z a n=>
  split at h<;>try cases h
  rename_i n hx hn;split at h
  case isFalse=>cases h
  rename_i hc;simp only[Option.some.injEq,Prod.mk.injEq]at h;obtain⟨rfl,rfl⟩:=h;exact .inl (yay hs he cx slot ok hx hn hc.1 hc.2.2)
 case mapSetR=>cases ok
 case callD=>cases ok
 case appendIn r a x=>exact .inl (z6x hs he ok h)
 case nilEq kd neg x=>
  split at h<;>try cases h
  rename_i k b hb;split at h<;>try cases h
  rename_i hk;subst hk;exact .inl (yg6 hs he ok hb)
 case loadD n a=>
  split at h<;>try cases h
  rename_i cs off ha;simp only[Option.map_eq_some_iff,Prod.mk.injEq]at h;obtain⟨w,hf,rfl,rfl⟩:=h;exact .inl (z8s hs he ok (by rw[ha];exact hf))
 case sliceC sz x hi mx=>
  split at h<;>try cases h
  rename_i n cs a b hx hh hm;split at h<;>try cases h
  rename_i hc;exact .inl (yd3 hs he ok hx (by rw[hh,hc.1]) (by rw[hm,hc.2]))
 case sealMv x=>
  simp only[Option.some.injEq,Prod.mk.injEq]at h;obtain⟨rfl,rfl⟩:=h;exact .inl (yl1 hs he ok)
 case fieldAddrD off x=>
  split at h<;>try cases h
  rename_i cs b hx;exact .inl (zuo hs he ok (by rw[hx];rfl))
 case idxAddrD sz x i=>
  split at h<;>try cases h
  rename_i n cs k hx hi;split at h<;>try cases h
  rename_i hr;exact .inl (zze hs he ok (by simp only[zn8,hx,hi];exact if_pos hr))
 case len k x=>
  simp only[Option.map_eq_some_iff,Prod.mk.injEq]at h;obtain⟨cs,hf,rfl,rfl⟩:=h;exact .inl (ypy hs he ok hf)
 case append r a x=>exact .inl (ydy hs he cx slot ok h)
 case appendS r a x=>exact .inl (yax hs he cx slot ok h)
 case appendF=>cases ok
 case strB x=>
  split at h
  ·rename_i n hx;simp only[Option.some.injEq,Prod.mk.injEq]at h;obtain⟨rfl,rfl⟩:=h;exact .inl (yl3 hs he ok hx)
  cases h
 case minmax mx args=>
  simp only[Option.map_eq_some_iff,Prod.mk.injEq]at h;obtain⟨cs,hf,rfl,rfl⟩:=h;exact .inl (yd0 hs he ok hf)
 case clear z x=>
  simp only[Option.map_eq_some_iff,Prod.mk.injEq]at h;obtain⟨cs,hf,rfl,rfl⟩:=h;exact .inl (yg1 hs he ok hf)
def fen(r:Option Nat):Fence:={fn:=λ_=>True,depth:=none,alive:=false,round:=r}
def yqx [Clk](P:Program)(oc:zel)(gl:Globs)(r:Option Nat)(s:S)(A:Act)(o:Oper)(v:V)(m':Mem):Prop:=
 ∀(next:Act->World->Prop)(Q:Exit->Act->World->Prop),(∀s' x,Sim oc gl s'->Ext (λ_=>True) s s'->s'.m=m'->VR s' v x->next (A.put o.dst x) s'.w)->o.wpIn (fen r) 0 P A s.w next Q
theorem zug [Clk]{w w':World}{n:Next}(h:(execOp A.eval o).run P w=.ok n w')(hn:∀d,n≠.defer d):∀c,o.op≠.defer c:=by
 intro c hc;simp only[execOp,hc,Sem.run_bind]at h;cases hr:(resolve A.eval c o.type).run P w with
 |ok d w1=>
  rw[hr]at h;simp only[Result.andThen_ok,Sem.run_pure,Result.ok.injEq]at h;exact hn d h.1.symm
 |halt x w1=>rw[hr]at h;simp[Result.andThen]at h
theorem yup.ok [Clk]{r:Option Nat}{v:V}{m':Mem}(h:yup P oc gl s A o v m'):yqx P oc gl r s A o v m':=by
 intro next Q hn;refine⟨λ_ _=>trivial,?_⟩
 rcases h with⟨s',x,hr,h1,h2,h3,h4⟩|⟨rfl,s',hr,h1,h2,h3⟩
 ·rw[Oper.semAt_eq _ _ _ (zug hr (by simp)),hr];exact hn s' x h1 h2 h3 h4
 rw[Oper.semAt_eq _ _ _ (zug hr (by simp)),hr];exact hn s' undef h1 h2 h3 rfl
end
end Go.Evl
namespace Go.Evl
open Go.RowKit
section
variable{P:Program}{oc:zel}{gl:Globs}
theorem Ext.of_look [Clk]{s s':S}(h:Ext (λi=>look s.m i≠none) s s'):Ext (λ_=>True) s s':=
 ⟨h.os,h.tape,h.output,h.size,h.frame,h.imnew,h.im,h.keep,λi o _ ho=>h.objs i o (by rw[ho];simp) ho⟩
theorem z4i:∀(m:Mem)(i:Id)(o:Ob)(j:Id),look m i=some o->j∈idsO o->j∈idsAll m
 |[],i,o,j,h,_=>by simp[look]at h
 |(a,x)::r,i,o,j,h,hj=>by
  simp only[look]at h
  split at h
  ·obtain rfl:=Option.some.inj h;simp[idsAll,hj]
  simp[idsAll,z4i r i o j h hj]
theorem zo7(p:Id->Bool):∀(m:Mem)(i:Id),look (m.filter λq=>p q.1) i=if p i then look m i else none
 |[],i=>by simp[look]
 |(j,x)::r,i=>by
  have ih:=zo7 p r i;rw[List.filter_cons]
  by_cases hj:p j=true
  ·simp only[hj,if_true,look]
   by_cases e:j=i
   ·subst e;simp[hj]
   simp only[e,if_false];exact ih
  simp only[hj]
  by_cases e:j=i
  ·subst e;simp only[look,if_true];simpa[hj]using ih
  simp only[look,e,if_false];exact ih
theorem zsl(p:Id×Ob->Bool):∀(m:Mem)(j:Id),j∈idsAll (m.filter p)->j∈idsAll m
 |[],j,h=>h
 |(a,x)::r,j,h=>by
  rw[List.filter_cons]at h
  split at h
  ·simp only[idsAll,List.mem_append]at h⊢;exact h.imp id (zsl p r j)
  simp only[idsAll,List.mem_append];exact .inr (zsl p r j h)
theorem Sim.sub [Clk]{s:S}(hs:Sim oc gl s)(p:Id->Bool)(hp:∀i∈idsAll (s.m.filter λq=>p q.1),p i=true):
  Sim oc gl ⟨s.φ,s.m.filter λq=>p q.1,s.w,s.Im⟩/\Ext (λi=>p i=true) s ⟨s.φ,s.m.filter λq=>p q.1,s.w,s.Im⟩:=by
 have some_of:∀i o,look (s.m.filter λq=>p q.1) i=some o->look s.m i=some o:=λi o h=>by
  rw[zo7]at h;split at h
  ·exact h
  cases h
 have hE:Ext (λi=>p i=true) s ⟨s.φ,s.m.filter λq=>p q.1,s.w,s.Im⟩:=
  ⟨rfl,Tk.of,rfl,Nat.le_refl _,λb _ hf=>⟨rfl,λi o hi hg=>hf i o (some_of i o hi) hg⟩,λ_ _ h=>.inl h,λ_ _ h=>h,λ_ _ _=>rfl,
   λi o hi ho=>⟨o,by rw[zo7,hi];exact ho,zbd.refl _ _⟩⟩
 exact⟨⟨λi o h=>ObR.ext0 hE.to0 (λj hj=>hp j (z4i _ _ _ _ h hj)) (λ_ _=>⟨rfl,λ_ h=>h⟩) (hs.objs i o (some_of i o h)),
  λi j o o' b hij hi hj=>hs.apart i j o o' b hij (some_of i o hi) (some_of j o' hj),hs.imlt,hs.glob,hs.tabs.ext hE⟩,hE⟩
theorem zuh(cx:Cx)(slot:Nat):∀(is:List Id)(k:Nat)(a b:Id),(a,b)∈number cx slot k is->a∈is/\b.lv=cx.lv/\b.slot=slot/\k<=b.k
 |[],_,_,_,h=>by simp[number]at h
 |i::r,k,a,b,h=>by
  simp only[number,List.mem_cons,Prod.mk.injEq]at h
  rcases h with⟨rfl,rfl⟩|h
  ·exact⟨by simp,rfl,rfl,Nat.le_refl _⟩
  obtain⟨h1,h2,h3,h4⟩:=zuh cx slot r (k+1) a b h;exact⟨by simp[h1],h2,h3,by omega⟩
theorem yaa(cx:Cx)(slot:Nat):∀(is:List Id)(k:Nat)(a a' b:Id),(a,b)∈number cx slot k is->(a',b)∈number cx slot k is->a=a'
 |[],_,_,_,_,h,_=>by simp[number]at h
 |i::r,k,a,a',b,h,h'=>by
  simp only[number,List.mem_cons,Prod.mk.injEq]at h h'
  rcases h with⟨rfl,rfl⟩|h
  ·rcases h' with⟨rfl,_⟩|h'
   ·rfl
   have:=(zuh cx slot r (k+1) _ _ h').2.2.2;exact absurd this (Nat.not_succ_le_self k)
  rcases h' with⟨rfl,rfl⟩|h'
  ·have:=(zuh cx slot r (k+1) _ _ h).2.2.2;exact absurd this (Nat.not_succ_le_self k)
  exact yaa cx slot r (k+1) a a' b h h'
theorem zy3(cx:Cx)(slot:Nat):∀(is:List Id)(k:Nat)(i:Id),i∈is->(i,subst (number cx slot k is) i)∈number cx slot k is
 |[],_,_,h=>by simp at h
 |j::r,k,i,h=>by
  simp only[number,subst]
  by_cases e:j=i
  ·subst e;simp
  simp only[e,if_false];have:i∈r:=by simpa[Ne.symm e]using h
  exact List.mem_cons_of_mem _ (zy3 cx slot r (k+1) i this)
theorem z2l(cx:Cx)(slot:Nat):∀(is:List Id)(k:Nat)(a b:Id),onceB is=true->(a,b)∈number cx slot k is->b=subst (number cx slot k is) a
 |[],_,_,_,_,h=>by simp[number]at h
 |j::r,k,a,b,ho,h=>by
  simp only[onceB,Bool.and_eq_true,Bool.not_eq_true',List.elem_eq_mem,decide_eq_false_iff_not]at ho;simp only[number,List.mem_cons,Prod.mk.injEq]at h;simp only[number,subst]
  rcases h with⟨rfl,rfl⟩|h
  ·simp
  have ha:=(zuh cx slot r (k+1) a b h).1;have e:j≠a:=λe=>ho.1 (e▸ha)
  simp only[e,if_false];exact z2l cx slot r (k+1) a b ho.2 h
theorem z8w(cx:Cx)(slot:Nat):∀(is:List Id)(k:Nat)(i:Id),i∉is->subst (number cx slot k is) i=i
 |[],_,_,_=>rfl
 |j::r,k,i,h=>by
  simp only[List.mem_cons,not_or]at h;simp only[number,subst,Ne.symm h.1,if_false];exact z8w cx slot r (k+1) i h.2
theorem zoj(σ:List (Id×Id))(m:Mem):∀(l:List (Id×Id))(b:Id)(o:Ob),look (moved σ m l) b=some o->∃a o',(a,b)∈l/\look m a=some o'/\o=renO σ o'
 |[],b,o,h=>by simp[moved,look]at h
 |(a,c)::r,b,o,h=>by
  simp only[moved]at h
  split at h
  ·rename_i o' ho;simp only[look]at h
   split at h
   ·rename_i e;subst e;exact⟨a,o',by simp,ho,(Option.some.inj h).symm⟩
   obtain⟨a',o2,h1,h2,h3⟩:=zoj σ m r b o h;exact⟨a',o2,by simp[h1],h2,h3⟩
  obtain⟨a',o2,h1,h2,h3⟩:=zoj σ m r b o h;exact⟨a',o2,by simp[h1],h2,h3⟩
theorem zu2(σ:List (Id×Id))(m:Mem):∀(l:List (Id×Id))(a b:Id)(o:Ob),(∀a',(a',b)∈l->a'=a)->(a,b)∈l->look m a=some o->look (moved σ m l) b=some (renO σ o)
 |[],_,_,_,_,h,_=>by simp at h
 |(a',c)::r,a,b,o,hu,h,ho=>by
  simp only[moved]
  by_cases e:c=b
  ·subst e;obtain rfl:=hu a' (by simp);simp[ho,look]
  have h':(a,b)∈r:=by
   simp only[List.mem_cons,Prod.mk.injEq]at h
   rcases h with⟨_,h⟩|h
   ·exact absurd h.symm e
   exact h
  have ih:=zu2 σ m r a b o (λa' ha=>hu a' (by simp[ha])) h' ho
  split
  ·simp only[look,e,if_false];exact ih
  exact ih
theorem zkv:∀(a b:Mem)(i:Id),look (a++b) i=(look a i).or (look b i)
 |[],b,i=>by simp[look]
 |(j,x)::r,b,i=>by
  simp only[List.cons_append,look]
  split
  ·rfl
  exact zkv r b i
structure Ren(σ:List (Id×Id))(K:Id->Prop)(s s':S):Prop where
 im:∀b j,s.Im b j->s'.Im b j
 keep:∀b j,s.Im b j->s'.w.cell? ⟨b,j,none⟩=s.w.cell? ⟨b,j,none⟩
 objs:∀i o,K i->look s.m i=some o->∃o',look s'.m (subst σ i)=some o'/\zbd o o' (s.φ i) (s'.φ (subst σ i))
section
variable{σ:List (Id × Id)}{K:Id ->Prop}{s s':S}
mutual
theorem VR.ren(h:Ren σ K s s'):∀(v:V)(x:Value),(∀i∈ids v,K i)->VR s v x->VR s' (ren σ v) x
 |.d d,x,_,hv=>by simp only[VR,Evl.ren]at hv⊢;exact DR.ext h.im h.keep d x hv
 |.agg cs,x,hk,hv=>by
  simp only[VR,Evl.ren]at hv⊢;obtain⟨xs,hx,hv⟩:=hv;exact⟨xs,hx,VRs.ren h cs _ (by simpa only[ids]using hk) hv⟩
 |.tup cs,x,hk,hv=>by
  simp only[VR,Evl.ren]at hv⊢;obtain⟨xs,hx,hv⟩:=hv;exact⟨xs,hx,VRt.ren h cs _ (by simpa only[ids]using hk) hv⟩
 |.ref o a b c,x,hk,hv=>by
  simp only[VR,Evl.ren]at hv⊢;obtain⟨h1,hv⟩:=hv;obtain⟨ob,ho⟩:=hv.some;obtain⟨ob',ho',t⟩:=h.objs o ob (hk o (by simp[ids])) ho;rw[ho]at hv;rw[ho'];exact⟨h1,hv.turned t⟩
 |.ptr o a b,x,hk,hv=>by
  simp only[VR,Evl.ren]at hv⊢;obtain⟨h1,hv⟩:=hv;obtain⟨ob,ho⟩:=hv.some;obtain⟨ob',ho',t⟩:=h.objs o ob (hk o (by simp[ids])) ho;rw[ho]at hv;rw[ho'];exact⟨h1,hv.turned t⟩
 |.lptr cs off,x,_,hv=>by
  simp only[VR,Evl.ren]at hv⊢;obtain⟨b,o,hx,hv⟩:=hv;exact⟨b,o,hx,CR.ext h.im h.keep b o cs hv⟩
 |.cl n cs,x,_,hv=>by
  simp only[VR,Evl.ren]at hv⊢;obtain⟨ad,hx,hv⟩:=hv;exact⟨ad,hx,hv.imp id λ⟨b,o,h1,h2⟩=>⟨b,o,h1,CR.ext h.im h.keep b o cs h2⟩⟩
 |.fn f a b,x,hk,hv=>by
  simp only[VR,Evl.ren]at hv⊢;obtain⟨xs,ys,hx,h1,h2⟩:=hv;exact⟨xs,ys,hx,VRt.ren h a _ (λi hi=>hk i (by simp[ids,hi])) h1,VRt.ren h b _ (λi hi=>hk i (by simp[ids,hi])) h2⟩
 |.yld o,x,hk,hv=>by
  simp only[VR,Evl.ren]at hv⊢;obtain⟨h1,hv⟩:=hv;obtain⟨ob,ho⟩:=hv.some;obtain⟨ob',ho',t⟩:=h.objs o ob (hk o (by simp[ids])) ho;rw[ho]at hv;rw[ho'];exact⟨h1,hv.turned t⟩
 |.mp o,x,hk,hv=>by
  simp only[VR,Evl.ren]at hv⊢;obtain⟨h1,hv⟩:=hv;obtain⟨ob,ho⟩:=hv.some;obtain⟨ob',ho',t⟩:=h.objs o ob (hk o (by simp[ids])) ho;rw[ho]at hv;rw[ho'];exact⟨h1,hv.turned t⟩
 |.it o,x,hk,hv=>by
  simp only[VR,Evl.ren]at hv⊢;obtain⟨h1,hv⟩:=hv;obtain⟨ob,ho⟩:=hv.some;obtain⟨ob',ho',t⟩:=h.objs o ob (hk o (by simp[ids])) ho;rw[ho]at hv;rw[ho'];exact⟨h1,hv.turned t⟩
 |.skip,x,_,hv=>by simpa only[VR,Evl.ren]using hv
 |.undef,x,_,_=>by simp only[VR,Evl.ren]
theorem VRs.ren(h:Ren σ K s s'):∀(cs:List V)(xs:List Value),(∀i∈zev cs,K i)->VRs s cs xs->VRs s' (zrp σ cs) xs
 |[],_,_,hv=>by simpa only[VRs,zrp]using hv
 |d::r,xs,hk,hv=>by
  simp only[VRs,zrp]at hv⊢;obtain⟨x,ys,h1,h2,h3,h4⟩:=hv;exact⟨x,ys,h1,h2,VR.ren h d x (λi hi=>hk i (by simp[zev,hi])) h3,VRs.ren h r ys (λi hi=>hk i (by simp[zev,hi])) h4⟩
theorem VRt.ren(h:Ren σ K s s'):∀(cs:List V)(xs:List Value),(∀i∈zev cs,K i)->VRt s cs xs->VRt s' (zrp σ cs) xs
 |[],_,_,hv=>by simpa only[VRt,zrp]using hv
 |d::r,xs,hk,hv=>by
  simp only[VRt,zrp]at hv⊢;obtain⟨x,ys,h1,h3,h4⟩:=hv;exact⟨x,ys,h1,VR.ren h d x (λi hi=>hk i (by simp[zev,hi])) h3,VRt.ren h r ys (λi hi=>hk i (by simp[zev,hi])) h4⟩
end
theorem zq4.ren(h:Ren σ K s s'):∀(es:List (D×V))(q:List MapEntry),(∀i∈idsM es,K i)->zq4 s es q->zq4 s' (ygo σ es) q
 |[],_,_,hm=>hm
 |(k,v)::r,_,hk,hm=>by
  obtain⟨e,q,hq,h1,h2,h3,h4⟩:=hm;exact⟨e,q,hq,h1,DR.ext h.im h.keep k _ h2,VR.ren h v _ (λi hi=>hk i (by simp[idsM,hi])) h3,zq4.ren h r q (λi hi=>hk i (by simp[idsM,hi])) h4⟩
theorem ydh(σ:List (Id×Id)):∀es:List (D×V),(ygo σ es).map (·.1)=es.map (·.1)
 |[]=>rfl
 |(k,v)::r=>by simp[ygo,ydh σ r]
theorem zq4.perm{s:S}{es fs:List (D×V)}(h:es.Perm fs):∀{q:List MapEntry},zq4 s es q->∃q',q'.Perm q/\zq4 s fs q':=by
 induction h with
 |nil=>exact λhm=>⟨_,.refl _,hm⟩
 |cons x _ ih=>
  obtain⟨k,v⟩:=x;rintro _⟨e,q,rfl,h1,h2,h3,h4⟩;obtain⟨q',hp,hm⟩:=ih h4;exact⟨e::q',hp.cons e,e,q',rfl,h1,h2,h3,hm⟩
 |swap x y l=>
  obtain⟨k,v⟩:=x;obtain⟨k',v'⟩:=y;rintro _⟨e,_,rfl,h1,h2,h3,e',q,rfl,g1,g2,g3,g4⟩;exact⟨e'::e::q,.swap e e' q,e',_,rfl,g1,g2,g3,e,q,rfl,h1,h2,h3,g4⟩
 |trans _ _ ih1 ih2=>
  intro q hm;obtain⟨q1,hp1,hm1⟩:=ih1 hm;obtain⟨q2,hp2,hm2⟩:=ih2 hm1;exact⟨q2,hp2.trans hp1,hm2⟩
theorem zut.perm{s:S}{es fs:List (D×V)}{q:List MapEntry}(hm:zut s es q)(hd:yqv fs)(hp:es.Perm fs)(hn:(q.map (·.key)).Nodup):zut s fs q:=by
 rcases hm with hm|⟨_,_,q1,hq,hm⟩
 ·obtain⟨q',h1,h2⟩:=zq4.perm hp hm;exact .inr ⟨hd,hn,q',h1,h2⟩
 obtain⟨q',h1,h2⟩:=zq4.perm hp hm;exact .inr ⟨hd,hn,q',h1.trans hq,h2⟩
theorem zut.ren(h:Ren σ K s s')(es:List (D×V))(q:List MapEntry)(hk:∀i∈idsM es,K i)(hm:zut s es q):zut s' (ygo σ es) q:=by
 rcases hm with hm|⟨hd,hn,q',hp,hm⟩
 ·exact .inl (zq4.ren h es q hk hm)
 refine .inr ⟨?_,hn,q',hp,zq4.ren h es q' hk hm⟩;rw[yh1]at hd⊢;rw[ydh];exact hd
theorem zst(σ:List (Id×Id)):∀(cs:List V),(zrp σ cs).length=cs.length
 |[]=>rfl
 |_::r=>by simp[zrp,zst σ r]
theorem zbd.renO(σ:List (Id×Id))(o:Ob)(p:Value):zbd o (renO σ o) p p:=by
 cases o<;>simp[zbd,Evl.renO,zst]
theorem ObR.ren(h:Ren σ K s s'){p:Value}{o:Ob}(hk:∀i∈idsO o,K i)(hl:isLoop o=false)(hb:∀b,blk p=some b->s'.w.heap[b]?=s.w.heap[b]? /\∀j,s'.Im b j->s.Im b j)
  (ho:ObR oc s p o):ObR oc s' p (renO σ o):=by
 cases o with
 |cells t cs=>
  obtain⟨b,xs,rfl,hh,hv,hi⟩:=ho;obtain⟨h1,h2⟩:=hb b rfl;exact⟨b,xs,rfl,h1.trans hh,VRs.ren h cs _ hk hv,λj hj=>hi j (h2 j hj)⟩
 |row wr t sz n ds=>
  obtain⟨hz,xs,hown,hd,hi⟩:=ho
  refine⟨hz,xs,?_,DRs.ext h.im h.keep ds xs hd,λb hbb j=>?_⟩
  ·refine⟨hown.1,?_⟩
   rcases hown.2 with hn|⟨g,cap,cur,rfl,h0,hh,rest⟩
   ·exact .inl hn
   exact .inr ⟨g,cap,cur,rfl,h0,(hb g rfl).1.trans hh,rest⟩
  obtain⟨h1,h2⟩:=hb b (zm9 _ _ hbb);exact⟨λhj=>(hi b hbb j).1 (h2 j hj),λhj=>h.im _ _ ((hi b hbb j).2 hj)⟩
 |map es=>
  obtain⟨b,ces,cl,rfl,hh,hm,hst⟩:=ho;exact⟨b,ces,cl,rfl,(hb b rfl).1.trans hh,zut.ren h es _ hk hm,hst⟩
 |bag t sz n ds=>
  obtain⟨hz,ds',xs,hp,hown,hd,hi⟩:=ho
  refine⟨hz,ds',xs,hp,?_,DRs.ext h.im h.keep ds' xs hd,λb hbb j hj=>?_⟩
  ·refine⟨hown.1,?_⟩
   rcases hown.2 with hn|⟨g,cap,cur,rfl,h0,hh,rest⟩
   ·exact .inl hn
   exact .inr ⟨g,cap,cur,rfl,h0,(hb g rfl).1.trans hh,rest⟩
  obtain⟨h1,h2⟩:=hb b (zm9 _ _ hbb);exact hi b hbb j (h2 j hj)
 |iter str pos=>
  obtain⟨b,rfl,hh⟩:=ho;exact⟨b,rfl,(hb b rfl).1.trans hh⟩
 |loop e ps a c lv bu ov j=>simp[isLoop]at hl
 |gone=>trivial
end
structure yy2 [Clk](oc:zel)(gl:Globs)(lo:Nat)(s s1 sB:S):Prop where
 sim1:Sim oc gl s1
 sim:Sim oc gl sB
 ext:Ext (λ_=>True) s sB
 w:sB.w=s1.w
 im:sB.Im=s1.Im
 new:∀i o b,look s1.m i=some o->o≠.gone->lo<=i.lv->blk (s1.φ i)=some b->(s.w.heap.size<=b\/¬zxj s b)/\∀j o',look sB.m j=some o'->o'≠.gone->blk (sB.φ j)≠some b
 low:∀i,i.lv<lo->look sB.m i=look s1.m i/\sB.φ i=s1.φ i
theorem ypm [Clk]{lo:Nat}{s s1 sB:S}(hB:yy2 oc gl lo s s1 sB){cx:Cx}{slot:Nat}{v v':V}{m':Mem}{x:Value}(h:settle cx slot lo sB.m s1.m v=some (v',m'))(hv:VR s1 v x):
  ∃s',s'.w=s1.w/\Sim oc gl s'/\Ext (λ_=>True) s s'/\s'.m=m'/\VR s' v' x:=by
 unfold settle at h;simp only at h;generalize reach lo s1.m 64 (ids v) []=is at h;split at h<;>try cases h
 rename_i hc;simp only[Bool.and_eq_true]at hc;obtain⟨hw,hmv⟩:=hc;simp only[movable,Bool.and_eq_true,List.all_eq_true]at hmv;obtain⟨honce,hall⟩:=hmv;obtain⟨k,hk⟩:∃k,k=freeK cx.lv slot sB.m:=⟨_,rfl⟩
 rw[<-hk];obtain⟨σ,hσ⟩:∃σ,σ=number cx slot k is:=⟨_,rfl⟩
 rw[<-hσ]
 have fresh:∀a b,(a,b)∈σ->look sB.m b=none:=by
  intro a b hab;subst hσ;obtain⟨_,h1,h2,h3⟩:=zuh cx slot is k a b hab;cases hl:look sB.m b with
  |none=>rfl
  |some o=>exact absurd (z2i cx.lv slot _ _ o hl h1 h2) (by omega)
 have inj:∀a a' b,(a,b)∈σ->(a',b)∈σ->a=a':=by subst hσ;exact yaa cx slot is k
 have isin:∀a b,(a,b)∈σ->a∈is:=by subst hσ;exact λa b h=>(zuh cx slot is k a b h).1
 have sub:∀i∈is,(i,subst σ i)∈σ:=by subst hσ;exact zy3 cx slot is k
 have only:∀a b,(a,b)∈σ->b=subst σ a:=by subst hσ;exact λa b=>z2l cx slot is k a b honce
 have stay:∀i,i∉is->subst σ i=i:=by subst hσ;exact z8w cx slot is k
 have obj:∀i∈is,∃o,look s1.m i=some o/\(∀j∈idsO o,j∈is\/j.lv<lo)/\isLoop o=false/\lo<=i.lv:=by
  intro i hi;have:=hall i hi
  split at this
  ·rename_i o ho;simp only[Bool.and_eq_true,within,List.all_eq_true,Bool.or_eq_true,List.elem_eq_mem,decide_eq_true_eq,Bool.not_eq_true']at this;exact⟨o,ho,this.1.1,this.1.2,this.2⟩
  cases this
 have hids:∀i∈ids v,i∈is\/i.lv<lo:=by
  simpa only[within,List.all_eq_true,Bool.or_eq_true,List.elem_eq_mem,decide_eq_true_eq]using hw
 let φ':Id->Value:=λi=>match σ.find? (λp=>decide (p.2=i))with
  |some p=>s1.φ p.1
  |none=>sB.φ i
 have φnew:∀a b,(a,b)∈σ->φ' b=s1.φ a:=by
  intro a b hab;show(match σ.find? (λp=>decide (p.2=b))with|some p=>s1.φ p.1|none=>sB.φ b)=_;cases hf:σ.find? (λp=>decide (p.2=b))with
  |none=>exact absurd (List.find?_eq_none.1 hf _ hab) (by simp)
  |some p=>
   have h1:=List.find?_some hf;have h2:=List.mem_of_find?_eq_some hf;simp only[decide_eq_true_eq]at h1;obtain⟨p1,p2⟩:=p;simp only at h1;subst h1;simp only;rw[inj p1 a p2 h2 hab]
 have φold:∀i,look sB.m i≠none->φ' i=sB.φ i:=by
  intro i hi;show(match σ.find? (λp=>decide (p.2=i))with|some p=>s1.φ p.1|none=>sB.φ i)=_;cases hf:σ.find? (λp=>decide (p.2=i))with
  |none=>rfl
  |some p=>
   have h1:=List.find?_some hf;have h2:=List.mem_of_find?_eq_some hf;simp only[decide_eq_true_eq]at h1;obtain⟨p1,p2⟩:=p;simp only at h1;subst h1;exact absurd (fresh _ _ h2) hi
 let s':S:=⟨φ',sB.m++moved σ s1.m σ,s1.w,s1.Im⟩
 have lold:∀i o,look sB.m i=some o->look s'.m i=some o:=by
  intro i o hi;show look (sB.m++_) i=_;rw[zkv,hi];rfl
 have lnew:∀a b o,(a,b)∈σ->look s1.m a=some o->look s'.m b=some (renO σ o):=by
  intro a b o hab ho;show look (sB.m++_) b=_;rw[zkv,fresh a b hab,zu2 σ s1.m σ a b o (λa' h=>inj a' a b h hab) hab ho]
  rfl
 have lany:∀i o,look s'.m i=some o->look sB.m i=some o\/∃a o',(a,i)∈σ/\look s1.m a=some o'/\o=renO σ o':=by
  intro i o hi;have hi:look (sB.m++moved σ s1.m σ) i=some o:=hi;rw[zkv]at hi;cases hl:look sB.m i with
  |some o'=>rw[hl]at hi;exact .inl hi
  |none=>rw[hl]at hi;exact .inr (zoj σ s1.m σ i o hi)
 have hren:Ren σ (λi=>i∈is\/i.lv<lo) s1 s':=by
  refine⟨λ_ _ h=>h,λ_ _ _=>rfl,λi o hi ho=>?_⟩
  by_cases hmem:i∈is
  ·have hab:=sub i hmem;refine⟨_,lnew i _ o hab ho,?_⟩;show zbd o _ (s1.φ i) (φ' (subst σ i));rw[φnew _ _ hab];exact zbd.renO σ o _
  have hlow:=hi.resolve_left hmem;rw[stay i hmem];obtain⟨h1,h2⟩:=hB.low i hlow;refine⟨o,lold i o (h1.trans ho),?_⟩;show zbd o o (s1.φ i) (φ' i);rw[φold i (by rw[h1,ho];simp),h2];exact zbd.refl _ _
 have hkeep:yec (λ_=>True) sB s':=by
  refine⟨λb j h=>by rw[hB.im]at h;exact h,λb j _=>by rw[hB.w],λi o _ ho=>⟨o,lold i o ho,?_⟩⟩;show zbd o o (sB.φ i) (φ' i);rw[φold i (by rw[ho];simp)];exact zbd.refl _ _
 have apart1:∀i o a o' b,look sB.m i=some o->o≠.gone->look s1.m a=some o'->o'≠.gone->a∈is->blk (sB.φ i)=some b->blk (s1.φ a)≠some b:=by
  intro i o a o' b hi hg ha hga hais hb h2;obtain⟨_,_,_,_,hlo⟩:=obj a hais;exact(hB.new a o' b ha hga hlo h2).2 i o hi hg hb
 have ngone:∀o,renO σ o≠.gone->o≠.gone:=λo h e=>h (by rw[e];rfl)
 refine⟨s',rfl,⟨λi o hi=>?_,λi j o o' b hij hi hj hg hg' hb=>?_,hB.sim1.imlt,hB.sim1.glob,λg cs hg=>?_⟩,?_,rfl,VR.ren hren v x hids hv⟩
 ·rcases lany i o hi with hi|⟨a,o',hab,ho',rfl⟩
  ·show ObR oc s' (φ' i) o;rw[φold i (by rw[hi];simp)];exact ObR.ext0 hkeep (λ_ _=>trivial) (λb _=>⟨by rw[hB.w],λj h=>by rw[hB.im];exact h⟩) (hB.sim.objs i o hi)
  show ObR oc s' (φ' i) _;rw[φnew a i hab];obtain⟨o2,h1,h2,h3,_⟩:=obj a (isin a i hab);rw[ho']at h1;obtain rfl:=Option.some.inj h1;exact ObR.ren hren h2 h3 (λb _=>⟨rfl,λ_ h=>h⟩) (hB.sim1.objs a _ ho')
 ·show blk (φ' j)≠some b;have hb:blk (φ' i)=some b:=hb
  rcases lany i o hi with hi|⟨a,o1,hab,ho1,rfl⟩
  ·rw[φold i (by rw[hi];simp)]at hb
   rcases lany j o' hj with hj|⟨a',o2,hab',ho2,rfl⟩
   ·rw[φold j (by rw[hj];simp)];exact hB.sim.apart i j o o' b hij hi hj hg hg' hb
   rw[φnew a' j hab'];exact apart1 i o a' o2 b hi hg ho2 (ngone _ hg') (isin _ _ hab') hb
  rw[φnew a i hab]at hb
  rcases lany j o' hj with hj|⟨a',o2,hab',ho2,rfl⟩
  ·rw[φold j (by rw[hj];simp)];exact λh=>apart1 j o' a o1 b hj hg' ho1 (ngone _ hg) (isin _ _ hab) h hb
  rw[φnew a' j hab'];refine hB.sim1.apart a a' o1 o2 b (λe=>hij ?_) ho1 ho2 (ngone _ hg) (ngone _ hg') hb;subst e;rw[only _ _ hab,only _ _ hab']
 ·obtain⟨h1,h2,arr,t,fz,h3,h4⟩:=hB.sim1.tabs g cs hg;refine⟨λi o hi hgo=>?_,h2,arr,t,fz,h3,h4⟩;show blk (φ' i)≠some g
  rcases lany i o hi with hi|⟨a,o',hab,ho',rfl⟩
  ·rw[φold i (by rw[hi];simp)];exact(hB.sim.tabs g cs hg).1 i o hi hgo
  rw[φnew a i hab];exact h1 a o' ho' (ngone _ hgo)
 have hE:=hB.ext;have hw:s'.w=sB.w:=hB.w.symm
 refine⟨by rw[hw];exact hE.os,by rw[hw];exact hE.tape,by rw[hw];exact hE.output,by rw[hw];exact hE.size,λb hb hf=>?_,λb j h=>hE.imnew b j (by rw[hB.im];exact h),λb j h=>by have:=hE.im b j h;rw[hB.im]at this;exact this,
  λb j h=>by rw[hw];exact hE.keep b j h,λi o _ ho=>?_⟩
 ·obtain⟨h1,h2⟩:=hE.frame b hb hf;refine⟨by rw[hw];exact h1,λi o hi hg=>?_⟩;show blk (φ' i)≠some b
  rcases lany i o hi with hi|⟨a,o1,hab,ho1,rfl⟩
  ·rw[φold i (by rw[hi];simp)];exact h2 i o hi hg
  rw[φnew a i hab];intro hb';obtain⟨_,_,_,_,hlo⟩:=obj a (isin a i hab)
  rcases(hB.new a o1 b ho1 (ngone _ hg) hlo hb').1 with h3|h3
  ·omega
  exact h3 hf
 obtain⟨o',ho',t⟩:=hE.objs i o trivial ho;refine⟨o',lold i o' ho',?_⟩;show zbd o o' (s.φ i) (φ' i);rw[φold i (by rw[ho'];simp)];exact t
end
end Go.Evl
