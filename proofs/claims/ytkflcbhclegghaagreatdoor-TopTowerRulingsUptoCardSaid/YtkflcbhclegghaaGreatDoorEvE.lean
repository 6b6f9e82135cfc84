
/-
 The evaluator's limit, and what is to be shown for code to end well.
-/
import Derived.Test.YtkflcbhclegghaaGreatDoorEvSyn
namespace Go.Evl
def Le(F G:Oracle):Prop:=∀q r,F q=some r->G q=some r
structure ybc(It:Nat->Oracle)(E:Oracle):Prop where
 up:∀n,Le (It n) (It (n+1))
 lim:∀q r,E q=some r↔∃n,It n q=some r
theorem ybc.le{It:Nat->Oracle}{E:Oracle}(h:ybc It E){n m:Nat}(hnm:n<=m):Le (It n) (It m):=by
 induction hnm with
 |refl=>exact λ_ _ h=>h
 |step _ ih=>exact λq r hq=>h.up _ q r (ih q r hq)
structure zcn{α:Type}(It:Nat->Oracle)(E:Oracle)(f:Oracle->Option α):Prop where
 mono:∀F G,Le F G->∀r,f F=some r->f G=some r
 reach:∀r,f E=some r->∃n,f (It n)=some r
section
variable{It:Nat ->Oracle}{E:Oracle}{α β:Type}
theorem zcn.const{f:Oracle->Option α}(h:∀F G,f F=f G):zcn It E f:=
 ⟨λF G _ _ hr=>(h G F).trans hr,λ_ hr=>⟨0,(h _ E).trans hr⟩⟩
theorem zcn.query(hc:ybc It E)(q:Req):zcn It E (λF=>F q):=
 ⟨λ_ _ h r hr=>h q r hr,λr hr=>(hc.lim q r).1 hr⟩
theorem zcn.bind(hc:ybc It E){f:Oracle->Option α}{k:α->Oracle->Option β}(hf:zcn It E f)(hk:∀a,zcn It E (k a)):zcn It E (λF=>(f F).bind λa=>k a F):=by
 refine⟨λF G h r hr=>?_,λr hr=>?_⟩
 ·obtain⟨a,h1,h2⟩:=Option.bind_eq_some_iff.1 hr;exact Option.bind_eq_some_iff.2 ⟨a,hf.mono F G h a h1,(hk a).mono F G h r h2⟩
 obtain⟨a,h1,h2⟩:=Option.bind_eq_some_iff.1 hr;obtain⟨n,hn⟩:=hf.reach a h1;obtain⟨k',hk'⟩:=(hk a).reach r h2;refine⟨max n k',Option.bind_eq_some_iff.2 ⟨a,hf.mono _ _ (hc.le (Nat.le_max_left _ _)) a hn,(hk a).mono _ _ (hc.le (Nat.le_max_right _ _)) r hk'⟩⟩
theorem zcn.of_eq{f g:Oracle->Option α}(h:∀F,f F=g F)(hg:zcn It E g):zcn It E f:=by
 have:f=g:=funext h;rw[this];exact hg
theorem zn5{p:Prop}[Decidable p]{f g:Oracle->Option α}(hf:zcn It E f)(hg:zcn It E g):zcn It E (λF=>if p then f F else g F):=by
 by_cases h:p
 ·exact zcn.of_eq (λF=>if_pos h) hf
 exact zcn.of_eq (λF=>if_neg h) hg
variable(hc:ybc It E)
include hc
theorem z3y(cx:Cx)(f:V)(args:List V)(m:Mem):zcn It E (λF=>zja F cx f args m):=by
 cases f with
 |fn f first caps=>
  refine zcn.of_eq (g:=λF=>(F (.call cx.nx f (first++args++caps) m)).bind λr=>match r with|.val v m'=>some (v,m')|_=>none) (λF=>?_) (zcn.bind hc (zcn.query hc _) λr=>zcn.const λ_ _=>rfl);simp only[zja];cases F (.call cx.nx f (first++args++caps) m)with
  |none=>rfl
  |some r=>cases r<;>rfl
 |yld o=>
  refine zcn.of_eq (g:=λF=>(F (.round cx.nx o args m)).bind λr=>match r with|.val v m'=>some (v,m')|_=>none) (λF=>?_) (zcn.bind hc (zcn.query hc _) λr=>zcn.const λ_ _=>rfl);simp only[zja];cases F (.round cx.nx o args m)with
  |none=>rfl
  |some r=>cases r<;>rfl
 |_=>exact zcn.const λ_ _=>rfl
theorem zoh(cx:Cx)(slot:Nat)(shared imm:Bool)(f:V)(args:List V)(m:Mem):zcn It E (λF=>zlz F cx slot shared imm f args m):=by
 unfold zlz
 refine zn5 (zn5 ?_ (zcn.const λ_ _=>rfl)) ?_
 ·refine zcn.of_eq (g:=λF=>(zja F cx f args m).bind λp=>if zk1 cx.nx (idsAll (ze1 cx.nx p.2))then zpu cx slot cx.nx imm (ze1 cx.nx p.2) p.2 p.1 else none) (λF=>?_) (zcn.bind hc (z3y hc cx f args m) λr=>zcn.const λ_ _=>rfl);cases zja F cx f args m<;>rfl
 cases f with
 |fn f first caps=>
  dsimp only;generalize freezeL false m (first++args++caps)=o;cases o with
  |none=>exact zcn.const λ_ _=>rfl
  |some ds=>
   refine zcn.of_eq (g:=λF=>(F (.call 0 f (asV ds) [])).bind λr=>match r with|.val v m'=>zpu cx slot 0 imm m m' v|_=>none) (λF=>?_) (zcn.bind hc (zcn.query hc _) λr=>zcn.const λ_ _=>rfl);simp only;cases F (.call 0 f (asV ds) [])with
   |none=>rfl
   |some r=>cases r<;>rfl
 |_=>exact zcn.const λ_ _=>rfl
theorem ye7(f:V)(args:List V)(m:Mem):zcn It E (λF=>zyi F f args m):=by
 cases f with
 |fn f first caps=>
  simp only[zyi];refine zn5 ?_ (zcn.const λ_ _=>rfl)
  refine zcn.of_eq (g:=λF=>(F (.call 1 f (zrp (number ⟨0,0⟩ 0 0 (reach 0 m 64 (zev (first++args++caps)) [])) (first++args++caps)) (moved (number ⟨0,0⟩ 0 0 (reach 0 m 64 (zev (first++args++caps)) [])) m (number ⟨0,0⟩ 0 0 (reach 0 m 64 (zev (first++args++caps)) []))))).bind λr=>match r with
   |.val v m1=>if yct m1 (moved (number ⟨0,0⟩ 0 0 (reach 0 m 64 (zev (first++args++caps)) [])) m (number ⟨0,0⟩ 0 0 (reach 0 m 64 (zev (first++args++caps)) [])))&&(ids v).all (λi=>((number ⟨0,0⟩ 0 0 (reach 0 m 64 (zev (first++args++caps)) [])).map (·.2)).elem i)then some (ren (zpk (number ⟨0,0⟩ 0 0 (reach 0 m 64 (zev (first++args++caps)) []))) v)else none
   |_=>none) (λF=>?_) (zcn.bind hc (zcn.query hc _) λr=>zcn.const λ_ _=>rfl)
  generalize number ⟨0,0⟩ 0 0 (reach 0 m 64 (zev (first++args++caps)) [])=σ;cases F (.call 1 f (zrp σ (first++args++caps)) (moved σ m σ))with
  |none=>rfl
  |some r=>cases r<;>rfl
 |_=>exact zcn.const λ_ _=>rfl
theorem z3z(imm:Bool)(f:V)(args:List V)(m:Mem):zcn It E (λF=>zt2 F imm f args m):=by
 cases f with
 |fn f first caps=>
  simp only[zt2];refine zn5 ?_ (zcn.const λ_ _=>rfl)
  refine zcn.of_eq (g:=λF=>(F (.call 1 f (zrp (number ⟨0,0⟩ 0 0 (reach 0 m 64 (zev ((first++args++caps).map (z0i m))) [])) ((first++args++caps).map (z0i m))) (moved (number ⟨0,0⟩ 0 0 (reach 0 m 64 (zev ((first++args++caps).map (z0i m))) [])) m (number ⟨0,0⟩ 0 0 (reach 0 m 64 (zev ((first++args++caps).map (z0i m))) []))))).bind λr=>match r with
   |.val v m1=>
    if imm then
     if zk1 1 (zoi (moved (number ⟨0,0⟩ 0 0 (reach 0 m 64 (zev ((first++args++caps).map (z0i m))) [])) m (number ⟨0,0⟩ 0 0 (reach 0 m 64 (zev ((first++args++caps).map (z0i m))) []))))&&zk1 1 (idsAll (ze1 1 m1))then
      match zpu ⟨0,1⟩ 0 1 true (ze1 1 m1) m1 v with
      |some (v',m2)=>if(ids v').all (λi=>((number ⟨0,0⟩ 0 0 (reach 0 m 64 (zev ((first++args++caps).map (z0i m))) [])).map (·.2)).elem i)then(zvl (number ⟨0,0⟩ 0 0 (reach 0 m 64 (zev ((first++args++caps).map (z0i m))) [])) m2 (number ⟨0,0⟩ 0 0 (reach 0 m 64 (zev ((first++args++caps).map (z0i m))) [])) m).map λm'=>(ren (zpk (number ⟨0,0⟩ 0 0 (reach 0 m 64 (zev ((first++args++caps).map (z0i m))) []))) v',m')else none
      |none=>none
     else none
    else if(ids v).all (λi=>((number ⟨0,0⟩ 0 0 (reach 0 m 64 (zev ((first++args++caps).map (z0i m))) [])).map (·.2)).elem i)then(zvl (number ⟨0,0⟩ 0 0 (reach 0 m 64 (zev ((first++args++caps).map (z0i m))) [])) m1 (number ⟨0,0⟩ 0 0 (reach 0 m 64 (zev ((first++args++caps).map (z0i m))) [])) m).map λm'=>(ren (zpk (number ⟨0,0⟩ 0 0 (reach 0 m 64 (zev ((first++args++caps).map (z0i m))) []))) v,m')else none
   |_=>none) (λF=>?_) (zcn.bind hc (zcn.query hc _) λr=>zcn.const λ_ _=>rfl)
  generalize number ⟨0,0⟩ 0 0 (reach 0 m 64 (zev ((first++args++caps).map (z0i m))) [])=σ;cases F (.call 1 f (zrp σ ((first++args++caps).map (z0i m))) (moved σ m σ))with
  |none=>rfl
  |some r=>cases r<;>rfl
 |_=>exact zcn.const λ_ _=>rfl
theorem ye8(f:V)(args:List V)(m:Mem):zcn It E (λF=>z3s F f args m):=by
 cases f with
 |fn f first caps=>
  simp only[z3s];generalize freezeL true m (first++args++caps)=o;cases o with
  |none=>exact zcn.const λ_ _=>rfl
  |some ds=>
   refine zcn.of_eq (g:=λF=>(F (.call 0 f (asV ds) [])).bind λr=>match r with|.val v m'=>(if z7n m' v=true then(thaw m' v).map λv=>(v,m)else none)|_=>none) (λF=>?_) (zcn.bind hc (zcn.query hc _) λr=>zcn.const λ_ _=>rfl);simp only;cases F (.call 0 f (asV ds) [])with
   |none=>rfl
   |some r=>cases r<;>rfl
 |_=>exact zcn.const λ_ _=>rfl
theorem z3x{γ:Type}{run:Oracle->γ->Option α}(h:∀a,zcn It E (λF=>run F a)):∀l:List γ,zcn It E (λF=>ykf (run F) l)
 |[]=>zcn.const λ_ _=>rfl
 |a::r=>zcn.bind hc (h a) λ_=>zcn.bind hc (z3x h r) λ_=>zcn.const λ_ _=>rfl
theorem yb2{run:Oracle->Mem->Option (V×Mem)}(h:∀m,zcn It E (λF=>run F m))(m:Mem)(v:V):zcn It E (λF=>zqt (run F) m v):=by
 unfold zqt
 split
 ·split
  ·exact zn5 (zcn.bind hc (h _) λ_=>zcn.bind hc (z3x hc (λ_=>h _) _) λ_=>zcn.const λ_ _=>rfl) (zcn.const λ_ _=>rfl)
  exact h m
 exact h m
theorem zt6{body:Oracle->Env->Mem->Option (Ex×Env×Mem)}(h:∀e m,zcn It E (λF=>body F e m))(it:Nat)(i:Id)(out nxt pair:Nat)(live:List Nat)(keep:List Id):
  ∀(l:List (D×V))(e:Env)(m:Mem),zcn It E (λF=>zg2 (body F) it i out nxt pair live keep l e m)
 |[],_,_=>zcn.const λ_ _=>rfl
 |(k,v)::r,e,m=>by
  refine zcn.bind hc (h _ _) λp=>?_
  unfold zkd
  split
  ·exact zn5 (zt6 h it i out nxt pair live keep r _ _) (zcn.const λ_ _=>rfl)
  exact zcn.const λ_ _=>rfl
theorem yb4{body:Oracle->Env->Mem->Option (Ex×Env×Mem)}(h:∀e m,zcn It E (λF=>body F e m))(cx:Cx)(it:Nat)(x:Opd)(out nxt pair:Nat)(live:List Nat)(e:Env)(m:Mem):
  zcn It E (λF=>znm (body F) cx it x out nxt pair live e m):=by
 unfold znm
 split
 ·split
  ·exact zcn.bind hc (zcn.bind hc (zt6 hc h _ _ _ _ _ _ _ _ _ _) λ_=>zcn.bind hc (z3x hc (λ_=>zt6 hc h _ _ _ _ _ _ _ _ _ _) _) λ_=>zcn.const λ_ _=>rfl) λ_=>zcn.const λ_ _=>rfl
  exact zcn.const λ_ _=>rfl
 exact zcn.const λ_ _=>rfl
theorem yb3(cx:Cx)(slot:Nat)(e:Env)(m:Mem)(op:COp):zcn It E (λF=>zc5 F cx slot e m op):=by
 cases op with
 |call s i f args=>exact zoh hc cx slot s i _ _ m
 |callD f args=>
  simp only[zc5]
  split
  ·split
   ·exact zoh hc cx slot false true _ _ m
   exact zcn.const λ_ _=>rfl
  exact zcn.const λ_ _=>rfl
 |callK i f args=>
  refine zcn.of_eq (g:=λF=>(zlz F cx slot true i (zrq (f.ev e)) (evs e args) m).bind λp=>if leM m p.2 m=true then some (p.1,m)else none) (λF=>?_) (zcn.bind hc (zoh hc cx slot true i _ _ m) λp=>zcn.const λ_ _=>rfl);simp only[zc5];cases zlz F cx slot true i (zrq (f.ev e)) (evs e args) m<;>rfl
 |callQ f args=>
  refine zcn.of_eq (g:=λF=>(zyi F (zrq (f.ev e)) (evs e args) m).bind λv=>some (v,m)) (λF=>?_) (zcn.bind hc (ye7 hc _ _ m) λp=>zcn.const λ_ _=>rfl);simp only[zc5];cases zyi F (zrq (f.ev e)) (evs e args) m<;>rfl
 |callU b f args=>exact z3z hc b _ _ m
 |callZ f args=>exact ye8 hc _ _ m
 |callN f args=>
  simp only[zc5]
  split
  ·split
   ·exact zoh hc cx slot false false _ _ m
   exact zcn.const λ_ _=>rfl
  exact zcn.const λ_ _=>rfl
 |callB i f args b=>exact yb2 hc (λm=>zoh hc cx slot true i _ _ m) m _
 |callR i f args rs=>
  refine zcn.of_eq (g:=λF=>(zlz F cx slot true i (zrq (f.ev e)) (evs e args) m).bind λp=>if z94 m p.2 (rs.map (get e))=true then some p else none) (λF=>?_) (zcn.bind hc (zoh hc cx slot true i _ _ m) λp=>zcn.const λ_ _=>rfl);simp only[zc5];cases zlz F cx slot true i (zrq (f.ev e)) (evs e args) m<;>rfl
 |_=>exact zcn.const λ_ _=>rfl
theorem yko(cx:Cx)(e:Env)(m:Mem)(o:CO):zcn It E (λF=>zey F cx e m o):=by
 obtain⟨dst,guard,op⟩:=o;cases guard with
 |none=>exact yb3 hc cx _ e m op
 |some g=>
  obtain⟨t,want⟩:=g;simp only[zey]
  split
  ·split
   ·exact yb3 hc cx _ e m op
   exact zcn.const λ_ _=>rfl
  ·exact zcn.const λ_ _=>rfl
  exact zcn.const λ_ _=>rfl
theorem zrf(cx:Cx):∀(os:List CO)(e:Env)(m:Mem),zcn It E (λF=>zjb F cx os e m)
 |[],e,m=>zcn.const λ_ _=>rfl
 |o::r,e,m=>by
  refine zcn.of_eq (g:=λF=>(zey F cx e m o).bind λp=>zjb F cx r (put? e o.dst p.1) p.2) (λF=>?_) (zcn.bind hc (yko hc cx e m o) λp=>zrf cx r _ _);simp only[zjb];cases zey F cx e m o<;>rfl
def yxx:Res->Option (Ex×Env×Mem)
 |.st x e' m'=>some (x,e',m')
 |_=>none
def ysj(cx:Cx)(i:Id)(e:Env):Res->Option (Ex×Env×Mem)
 |.val _ m'=>
  match look m' i with
  |some (.loop _ _ _ _ _ false _ j)=>
   if zk1 cx.nx (idsAll (ze1 cx.nx m'))then
    let m2:=upd (ze1 cx.nx m') i .gone
    match j with
    |none=>some (.normal,e,m2)
    |some j=>some (j.ex,e,m2)
   else none
  |_=>none
 |_=>none
theorem zke(cx:Cx):∀(c:C)(e:Env)(m:Mem),zcn It E (λF=>evC F cx c e m)
 |.skip,e,m=>zcn.const λ_ _=>rfl
 |.label,e,m=>zcn.const λ_ _=>rfl
 |.exit _,e,m=>zcn.const λ_ _=>rfl
 |.ret,e,m=>zcn.const λ_ _=>rfl
 |.bad,e,m=>zcn.const λ_ _=>rfl
 |.scope c,e,m=>by simp only[evC];exact zke cx c e m
 |.fz t c,e,m=>by
  simp only[evC];cases freeze false m (get e t)with
  |some d=>exact zke cx c _ m
  |none=>exact zcn.const λ_ _=>rfl
 |.reg _ ops kill,e,m=>by
  refine zcn.of_eq (g:=λF=>(zjb F cx ops e m).bind λp=>some (.normal,zdk kill p.1,p.2)) (λF=>?_) (zcn.bind hc (zrf hc cx ops e m) λp=>zcn.const λ_ _=>rfl);simp only[evC];cases zjb F cx ops e m<;>rfl
 |.regC ops kill chk,e,m=>zcn.bind hc (zrf hc cx ops e m) λp=>zcn.const λ_ _=>rfl
 |.seq a b,e,m=>by
  refine zcn.of_eq (g:=λF=>(evC F cx a e m).bind λp=>match p with|(.normal,e',m')=>evC F cx b e' m'|p=>some p) (λF=>?_) (zcn.bind hc (zke cx a e m) λp=>?_)
  ·simp only[evC];cases evC F cx a e m with
   |none=>rfl
   |some p=>obtain⟨x,e',m'⟩:=p;cases x<;>rfl
  obtain⟨x,e',m'⟩:=p;cases x with
  |normal=>exact zke cx b e' m'
  |_=>exact zcn.const λ_ _=>rfl
 |.cond c a b,e,m=>by
  simp only[evC]
  split
  ·exact zn5 (zke cx a e m) (zke cx b e m)
  exact zcn.const λ_ _=>rfl
 |.block id c,e,m=>by
  refine zcn.of_eq (g:=λF=>(evC F cx c e m).bind λp=>match p with|(.exit j,e',m')=>if j=id then some (.normal,e',m')else some (.exit j,e',m')|p=>some p) (λF=>?_) (zcn.bind hc (zke cx c e m) λp=>zcn.const λ_ _=>rfl);simp only[evC];cases evC F cx c e m with
  |none=>rfl
  |some p=>obtain⟨x,e',m'⟩:=p;cases x<;>rfl
 |.loop live c,e,m=>by
  refine zcn.of_eq (g:=λF=>(F (.loop cx live (zoi m) c (only live e) (gc (zoi m) (only live e) m))).bind yxx) (λF=>?_) (zcn.bind hc (zcn.query hc _) λp=>zcn.const λ_ _=>rfl);simp only[evC];cases F (.loop cx live (zoi m) c (only live e) (gc (zoi m) (only live e) m))with
  |none=>rfl
  |some r=>cases r<;>rfl
 |.rangeM pre it x out nxt pair live ops kill code,e,m=>by
  simp only[evC];exact zcn.bind hc (zrf hc cx pre e m) λp=>yb4 hc (λe m=>zcn.bind hc (zrf hc cx ops e m) λq=>zke cx code _ _) _ _ _ _ _ _ _ _ _
 |.rangeFn slot f ps a b,e,m=>by
  simp only[evC];refine zn5 ?_ (zcn.const λ_ _=>rfl);cases f.ev e with
  |fn g first caps=>
   refine zcn.of_eq (g:=λF=>(F (.call cx.nx g (first++[.yld (newId cx slot m)]++caps) (upd m (newId cx slot m) (.loop e ps a b cx.lv false false none)))).bind (ysj cx (newId cx slot m) e)) (λF=>?_) (zcn.bind hc (zcn.query hc _) λp=>zcn.const λ_ _=>rfl);simp only;cases F (.call cx.nx g (first++[.yld (newId cx slot m)]++caps) (upd m (newId cx slot m) (.loop e ps a b cx.lv false false none)))with
   |none=>rfl
   |some r=>cases r<;>rfl
  |_=>exact zcn.const λ_ _=>rfl
theorem yb5(Γ:Nat->Option CF)(X:Extern)(q:Req):zcn It E (λF=>step Γ X F q):=by
 cases q with
 |call lv f args m=>
  simp only[step];cases X f with
  |some x=>exact zcn.const λ_ _=>rfl
  |none=>
   cases Γ f with
   |none=>exact zcn.const λ_ _=>rfl
   |some cf=>
    refine zcn.of_eq (g:=λF=>(evC F ⟨lv,lv+1⟩ cf.body (params 0 args) m).bind λp=>match p with|(.normal,e,m')=>(results m' e cf.results).map λv=>.val v m'|(.ret,e,m')=>(results m' e cf.results).map λv=>.val v m'|_=>none) (λF=>?_) (zcn.bind hc (zke hc _ _ _ _) λp=>zcn.const λ_ _=>rfl);simp only;cases evC F ⟨lv,lv+1⟩ cf.body (params 0 args) m with
    |none=>rfl
    |some p=>obtain⟨x,e',m'⟩:=p;cases x<;>rfl
 |round nx o args m=>
  simp only[step]
  split
  ·rename_i e ps a b lv j hl;refine zn5 ?_ (zcn.const λ_ _=>rfl)
   refine zcn.of_eq (g:=λF=>(evC F ⟨lv,nx⟩ a (ywu ps args e) m).bind λp=>match p with
    |(.normal,e1,m1)=>(match look m1 o with
     |some (.loop e' ps' a' b' lv' false false j')=>(evC F ⟨lv,nx⟩ b e1 (upd m1 o (.loop e' ps' a' b' lv' true false j'))).bind λp=>match p with
      |(x,_,m2)=>match look m2 o with
       |some (.loop e' ps' a' b' lv' true false _)=>(match x with
        |.normal=>some (.val (.d (.bool true)) (gc (zoi m) [] (upd m2 o (.loop e' ps' a' b' lv' false false none))))
        |.exit id=>some (.val (.d (.bool false)) (upd m2 o (.loop e' ps' a' b' lv' false true (some (.exit id)))))
        |.ret=>some (.val (.d (.bool false)) (upd m2 o (.loop e' ps' a' b' lv' false true (some .ret)))))
       |_=>none
     |_=>none)
    |_=>none) (λF=>?_) (zcn.bind hc (zke hc _ _ _ _) λp=>?_)
   ·simp only;cases evC F ⟨lv,nx⟩ a (ywu ps args e) m with
    |none=>rfl
    |some p=>
     obtain⟨x,e',m'⟩:=p;cases x with
     |normal=>
      simp only[Option.bind]
      split
      ·rename_i e2 ps2 a2 b2 lv2 j2 hlk;simp only[hlk];cases evC F ⟨lv,nx⟩ b e' (upd m' o (.loop e2 ps2 a2 b2 lv2 true false j2))with
       |none=>rfl
       |some p=>rfl
      rename_i hno
      split
      ·rename_i hlk;exact absurd hlk (hno _ _ _ _ _ _)
      rfl
     |exit id=>rfl
     |ret=>rfl
   obtain⟨x,e1,m1⟩:=p;cases x with
   |normal=>
    simp only
    split
    ·exact zcn.bind hc (zke hc _ _ _ _) λp=>zcn.const λ_ _=>rfl
    exact zcn.const λ_ _=>rfl
   |_=>exact zcn.const λ_ _=>rfl
  exact zcn.const λ_ _=>rfl
 |loop cx live keep body e m=>
  simp only[step]
  refine zcn.of_eq (g:=λF=>(evC F cx body e m).bind λp=>match p with|(.normal,e',m')=>F (.loop cx live keep body (only live e') (gc keep (only live e') m'))|(x,e',m')=>some (.st x e' m')) (λF=>?_) (zcn.bind hc (zke hc _ _ _ _) λp=>?_)
  ·cases evC F cx body e m with
   |none=>rfl
   |some p=>obtain⟨x,e',m'⟩:=p;cases x<;>rfl
  obtain⟨x,e',m'⟩:=p;cases x with
  |normal=>exact zcn.query hc _
  |_=>exact zcn.const λ_ _=>rfl
end
structure Lim(Γ:Nat->Option CF)(X:Extern)(E:Oracle):Prop where
 fix:∀q,E q=step Γ X E q
 reach:∀q r,E q=some r->∃n,iter Γ X n q=some r
theorem z5v{Γ:Nat->Option CF}{X:Extern}{F G:Oracle}(h:Le F G):Le (step Γ X F) (step Γ X G):=by
 have hc:ybc (λ_=>G) G:=⟨λ_ _ _ h=>h,λ_ _=>⟨λh=>⟨0,h⟩,λh=>h.elim λ_ h=>h⟩⟩;exact λq r hr=>(yb5 hc Γ X q).mono F G h r hr
theorem yfs(Γ:Nat->Option CF)(X:Extern):∀n,Le (iter Γ X n) (iter Γ X (n+1))
 |0=>λ_ _ h=>by simp[iter]at h
 |n+1=>z5v (yfs Γ X n)
theorem exists_lim(Γ:Nat->Option CF)(X:Extern):∃E,Lim Γ X E:=by
 have hd:∀q:Req,∃a:Option Res,∀r,a=some r↔∃n,iter Γ X n q=some r:=by
  intro q
  by_cases h:∃r,∃n,iter Γ X n q=some r
  ·obtain⟨r,n,hn⟩:=h;refine⟨some r,λr'=>⟨λh=>⟨n,by rw[hn,h]⟩,λ⟨k,hk⟩=>?_⟩⟩
   have up:∀a b,a<=b->Le (iter Γ X a) (iter Γ X b):=by
    intro a b hab;induction hab with
    |refl=>exact λ_ _ h=>h
    |step _ ih=>exact λq r hq=>yfs Γ X _ q r (ih q r hq)
   rw[<-up n (max n k) (Nat.le_max_left _ _) q r hn,up k (max n k) (Nat.le_max_right _ _) q r' hk]
  exact⟨none,λr=>⟨λh=>(nomatch h),λhn=>absurd ⟨r,hn⟩ h⟩⟩
 have⟨E,hE⟩:=Classical.axiomOfChoice hd;have hc:ybc (iter Γ X) E:=⟨yfs Γ X,hE⟩;refine⟨E,⟨λq=>?_,λq r h=>(hE q r).1 h⟩⟩;apply Option.ext;intro r
 constructor
 ·intro h;obtain⟨n,hn⟩:=(hE q r).1 h;cases n with
  |zero=>simp[iter]at hn
  |succ n=>exact z5v (λq r h=>(hE q r).2 ⟨n,h⟩) q r hn
 intro h;obtain⟨n,hn⟩:=(yb5 hc Γ X q).reach r h;exact(hE q r).2 ⟨n+1,hn⟩
theorem Lim.of_iter{Γ:Nat->Option CF}{X:Extern}{E:Oracle}(h:Lim Γ X E):∀(n:Nat)(q:Req)(r:Res),iter Γ X n q=some r->E q=some r
 |0,_,_,hn=>by simp[iter]at hn
 |n+1,q,r,hn=>by
  rw[h.fix];exact z5v (λq r=>h.of_iter n q r) q r hn
end Go.Evl
namespace Go.Evl
structure zem(p k:Prop):Prop where
 need:p
 go:k
structure Br(t:Bool)(a b:Prop):Prop where
 yes:t=true->a
 no:t=false->b
structure Cmp(p a b:Prop):Prop where
 yes:p->a
 no:¬p->b
structure Wr(k:IntKind)(x:Int)(K:Int->Prop):Prop where
 go:K (k.wrap x)
structure Rem(a b:Int)(K:Int->Prop):Prop where
 ne:b≠0
 go:K (a.tmod b)
structure Quo(k:IntKind)(a b:Int)(K:Int->Prop):Prop where
 ne:b≠0
 go:K (k.wrap (a.tdiv b))
structure zgp(cs:List D)(off:Nat)(K:D->Prop):Prop where
 got:∃d,cs[off]?=some d/\K d
structure ykd(cs:List V)(off:Nat)(K:V->Prop):Prop where
 got:∃d,cs[off]?=some d/\K d
structure za2(cs:List D)(off n:Nat)(K:List D->Prop):Prop where
 le:off+n<=cs.length
 go:K (win cs off n)
structure ymo(s:List UInt8)(i:Nat)(K:UInt8->Prop):Prop where
 got:∃b,s[i]?=some b/\K b
structure zto{α:Type}(o:Option α)(K:α->Prop):Prop where
 got:∃a,o=some a/\K a
def Fc(E:Oracle)(f:Nat)(args:List V)(r:V):Prop:=∃v m',E (.call 0 f args [])=some (.val v m')/\thaw m' v=some r
structure zaf(E:Oracle)(f:Nat)(args:List V)(K:V->Prop):Prop where
 got:∃r,Fc E f args r/\K r
structure zrr(E:Oracle)(f:Nat)(args:List V)(K:V->Prop):Prop where
 got:∃v m' r,E (.call 0 f args [])=some (.val v m')/\z7n m' v=true/\thaw m' v=some r/\K r
structure zd5(E:Oracle)(f:Nat)(args:List V)(cx:Cx)(slot:Nat)(m:Mem)(K:V->Mem->Prop):Prop where
 got:∃v m' p,E (.call 0 f args [])=some (.val v m')/\settle cx slot 0 m m' v=some p/\K p.1 p.2
structure In(E:Oracle)(lv f:Nat)(args:List V)(m:Mem)(K:V->Mem->Prop):Prop where
 got:∃v m',E (.call lv f args m)=some (.val v m')/\K v m'
structure Rnd(E:Oracle)(nx:Nat)(o:Id)(args:List V)(m:Mem)(K:V->Mem->Prop):Prop where
 got:∃v m',E (.round nx o args m)=some (.val v m')/\K v m'
structure zab(E:Oracle)(cx:Cx)(live:List Nat)(keep:List Id)(body:C)(e:Env)(m:Mem)(K:Ex->Env->Mem->Prop):Prop where
 got:∃x e' m',E (.loop cx live keep body e m)=some (.st x e' m')/\K x e' m'
structure Chk(b:Bool)(k:Prop):Prop where
 need:b=true
 go:k
structure Ret(a b:V):Prop where
 eq:a=b
def yqr:Env->Nat->(V->Prop)->Prop
 |[],_,K=>K .undef
 |(u,v)::r,t,K=>match Nat.beq u t with
  |true=>K v
  |false=>yqr r t K
theorem zud:∀(e:Env)(t:Nat)(K:V->Prop),yqr e t K=K (get e t)
 |[],_,_=>rfl
 |(u,v)::r,t,K=>by
  simp only[yqr,get];cases h:Nat.beq u t with
  |true=>simp[Nat.eq_of_beq_eq_true h]
  |false=>
   have:u≠t:=λhh=>by rw[hh,Nat.beq_refl]at h;cases h
   simp only[if_neg this];exact zud r t K
def opK(e:Env)(x:Opd)(K:V->Prop):Prop:=
 match x with
 |.t n=>yqr e n K
 |.k v=>K v
theorem zcm(e:Env)(x:Opd)(K:V->Prop):opK e x K=K (x.ev e):=by
 cases x with
 |t n=>exact zud e n K
 |k v=>rfl
def ycb(e:Env):List Opd->(List V->Prop)->Prop
 |[],K=>K []
 |x::r,K=>opK e x λv=>ycb e r λvs=>K (v::vs)
theorem zli(e:Env):∀(l:List Opd)(K:List V->Prop),ycb e l K=K (evs e l)
 |[],_=>rfl
 |x::r,K=>by simp only[ycb,evs,zcm,zli e r]
def ykx(e:Env):List Nat->(List V->Prop)->Prop
 |[],K=>K []
 |t::r,K=>yqr e t λv=>ykx e r λvs=>K (v::vs)
theorem z2j(e:Env):∀(l:List Nat)(K:List V->Prop),ykx e l K=K (l.map (get e))
 |[],_=>rfl
 |t::r,K=>by simp only[ykx,zud,z2j e r,List.map_cons]
def opK?(e:Env)(x:Option Opd)(K:Option V->Prop):Prop:=
 match x with
 |none=>K none
 |some x=>opK e x λv=>K (some v)
theorem opK?_eq(e:Env)(x:Option Opd)(K:Option V->Prop):opK? e x K=K (x.map (·.ev e)):=by
 cases x with
 |none=>rfl
 |some x=>exact zcm e x _
def yw7:Env->Nat->V->(Env->Prop)->Prop
 |[],t,v,K=>K [(t,v)]
 |(u,x)::r,t,v,K=>match Nat.beq u t with
  |true=>K ((t,v)::r)
  |false=>yw7 r t v λr'=>K ((u,x)::r')
theorem yaj:∀(e:Env)(t:Nat)(v:V)(K:Env->Prop),yw7 e t v K=K (put e t v)
 |[],_,_,_=>rfl
 |(u,x)::r,t,v,K=>by
  simp only[yw7,put];cases h:Nat.beq u t with
  |true=>simp[Nat.eq_of_beq_eq_true h]
  |false=>
   have:u≠t:=λhh=>by rw[hh,Nat.beq_refl]at h;cases h
   simp only[if_neg this];exact yaj r t v _
def put?K(e:Env)(t:Option Nat)(v:V)(K:Env->Prop):Prop:=
 match t with
 |none=>K e
 |some t=>yw7 e t v K
theorem put?K_eq(e:Env)(t:Option Nat)(v:V)(K:Env->Prop):put?K e t v K=K (put? e t v):=by
 cases t with
 |none=>rfl
 |some t=>exact yaj e t v K
def yzd:List Nat->Nat->Bool
 |[],_=>false
 |u::r,t=>match Nat.beq u t with
  |true=>true
  |false=>yzd r t
theorem yn2:∀(l:List Nat)(t:Nat),yzd l t=l.elem t
 |[],_=>rfl
 |u::r,t=>by
  simp only[yzd];cases h:Nat.beq u t with
  |true=>simp[Nat.eq_of_beq_eq_true h]
  |false=>
   have:t≠u:=λhh=>by rw[hh,Nat.beq_refl]at h;cases h
   simp only[yn2 r t,List.elem_cons];have:(t==u)=false:=by simpa using this
   rw[this]
def zvh(kill:List Nat):Env->(Env->Prop)->Prop
 |[],K=>K []
 |(u,v)::r,K=>match yzd kill u with
  |true=>zvh kill r K
  |false=>zvh kill r λr'=>K ((u,v)::r')
theorem zsy(kill:List Nat):∀(e:Env)(K:Env->Prop),zvh kill e K=K (zdk kill e)
 |[],_=>rfl
 |(u,v)::r,K=>by
  simp only[zvh,yn2];cases h:kill.elem u with
  |true=>
   have hm:u∈kill:=by simpa using h
   simp only[zsy kill r];simp[zdk,hm]
  |false=>
   have hm:u∉kill:=by simpa using h
   simp only[zsy kill r];simp[zdk,hm]
def yoh(e:Env):List Nat->(Env->Prop)->Prop
 |[],K=>K []
 |t::r,K=>yqr e t λv=>yoh e r λr'=>K ((t,v)::r')
theorem yag(e:Env):∀(live:List Nat)(K:Env->Prop),yoh e live K=K (only live e)
 |[],_=>rfl
 |t::r,K=>by simp only[yoh,zud,yag e r];rfl
def idB(i j:Id):Bool:=
 match Nat.beq i.slot j.slot with
 |true=>(match Nat.beq i.lv j.lv with
  |true=>Nat.beq i.k j.k
  |false=>false)
 |false=>false
theorem z9w{i j:Id}(h:idB i j=true):i=j:=by
 obtain⟨a,b,c⟩:=i;obtain⟨x,y,z⟩:=j;simp only[idB]at h
 split at h
 ·rename_i h1
  split at h
  ·rename_i h2;rw[Nat.eq_of_beq_eq_true h1,Nat.eq_of_beq_eq_true h2,Nat.eq_of_beq_eq_true h]
  cases h
 cases h
theorem z4h{i j:Id}(h:idB i j=false):i≠j:=by
 rintro rfl;obtain⟨a,b,c⟩:=i;simp[idB,Nat.beq_refl]at h
def znf:Mem->Id->(Option Ob->Prop)->Prop
 |[],_,K=>K none
 |(j,o)::r,i,K=>match idB j i with
  |true=>K (some o)
  |false=>znf r i K
theorem zds:∀(m:Mem)(i:Id)(K:Option Ob->Prop),znf m i K=K (look m i)
 |[],_,_=>rfl
 |(j,o)::r,i,K=>by
  simp only[znf,look];cases h:idB j i with
  |true=>simp[z9w h]
  |false=>simp only[if_neg (z4h h)];exact zds r i K
def ztm:Mem->Id->Ob->(Mem->Prop)->Prop
 |[],i,o,K=>K [(i,o)]
 |(j,x)::r,i,o,K=>match idB j i with
  |true=>K ((i,o)::r)
  |false=>ztm r i o λr'=>K ((j,x)::r')
theorem zd1:∀(m:Mem)(i:Id)(o:Ob)(K:Mem->Prop),ztm m i o K=K (upd m i o)
 |[],_,_,_=>rfl
 |(j,x)::r,i,o,K=>by
  simp only[ztm,upd];cases h:idB j i with
  |true=>simp[z9w h]
  |false=>simp only[if_neg (z4h h)];exact zd1 r i o _
def ywg(m:Mem)(v:V)(K:Mem->Prop):Prop:=
 match v with
 |.ref o _ _ _=>znf m o λob=>
  match ob with
  |some (.row true t sz n xs)=>ztm m o (.row false t sz n xs) K
  |_=>K m
 |_=>K m
theorem ys4(m:Mem)(v:V)(K:Mem->Prop)(h:ywg m v K):K (ypi m v):=by
 cases v with
 |ref o a b c=>
  simp only[ywg,zds]at h;simp only[ypi];cases hl:look m o with
  |none=>simp only[hl]at h;exact h
  |some ob=>
   simp only[hl]at h;cases ob with
   |row wr t sz n xs=>
    cases wr with
    |true=>simp only[zd1]at h;exact h
    |false=>exact h
   |_=>exact h
 |_=>exact h
def yw3:List Id->Id->Bool
 |[],_=>false
 |u::r,t=>match idB u t with
  |true=>true
  |false=>yw3 r t
theorem yn1:∀(l:List Id)(t:Id),yw3 l t=l.elem t
 |[],_=>rfl
 |u::r,t=>by
  simp only[yw3];cases h:idB u t with
  |true=>simp[z9w h]
  |false=>
   have h':t≠u:=λhh=>z4h h hh.symm
   simp only[yn1 r t,List.elem_cons];have:(t==u)=false:=by simpa using h'
   rw[this]
def gcF(a b c:List Id):Mem->(Mem->Prop)->Prop
 |[],K=>K []
 |(i,o)::r,K=>match yw3 a i with
  |true=>gcF a b c r λr'=>K ((i,o)::r')
  |false=>(match yw3 b i with
   |true=>gcF a b c r λr'=>K ((i,o)::r')
   |false=>(match yw3 c i with
    |true=>gcF a b c r λr'=>K ((i,o)::r')
    |false=>gcF a b c r K))
theorem yt1(a b c:List Id):∀(m:Mem)(K:Mem->Prop),gcF a b c m K=K (m.filter λp=>a.elem p.1||b.elem p.1||c.elem p.1)
 |[],_=>rfl
 |(i,o)::r,K=>by
  simp only[gcF,yn1];cases ha:a.elem i<;>cases hb:b.elem i<;>cases hc:c.elem i<;>simp only[yt1 a b c r,List.filter_cons,ha,hb,hc]<;>rfl
def gcK(keep:List Id)(e:Env)(m:Mem)(K:Mem->Prop):Prop:=
 match m with
 |[]=>K []
 |_::_=>gcF keep (ykz e) (idsAll m) m λm1=>gcF keep (ykz e) (idsAll m1) m1 λm2=>gcF keep (ykz e) (idsAll m2) m2 K
theorem ynq(keep:List Id)(e:Env)(m:Mem)(K:Mem->Prop):gcK keep e m K=K (gc keep e m):=by
 cases m with
 |nil=>rfl
 |cons p r=>simp only[gcK,yt1];rfl
def z7l(lv slot:Nat):Mem->(Nat->Prop)->Prop
 |[],K=>K 0
 |(j,_)::r,K=>match Nat.beq j.slot slot with
  |true=>(match Nat.beq j.lv lv with
   |true=>z7l lv slot r λn=>K (max (j.k+1) n)
   |false=>z7l lv slot r K)
  |false=>z7l lv slot r K
theorem zys(lv slot:Nat):∀(m:Mem)(K:Nat->Prop),z7l lv slot m K=K (freeK lv slot m)
 |[],_=>rfl
 |(j,o)::r,K=>by
  simp only[z7l,freeK];cases h1:Nat.beq j.slot slot with
  |false=>
   have:j.slot≠slot:=λhh=>by rw[hh,Nat.beq_refl]at h1;cases h1
   simp only[this,and_false,if_false];exact zys lv slot r K
  |true=>
   cases h2:Nat.beq j.lv lv with
   |false=>
    have:j.lv≠lv:=λhh=>by rw[hh,Nat.beq_refl]at h2;cases h2
    simp only[this,false_and,if_false];exact zys lv slot r K
   |true=>simp only[Nat.eq_of_beq_eq_true h1,Nat.eq_of_beq_eq_true h2,and_self,if_true,zys lv slot r]
def ymk(cx:Cx)(slot:Nat)(m:Mem)(K:Id->Prop):Prop:=z7l cx.lv slot m λn=>K ⟨cx.lv,slot,n⟩
theorem zpc(cx:Cx)(slot:Nat)(m:Mem)(K:Id->Prop):ymk cx slot m K=K (newId cx slot m):=zys _ _ _ _
def yfr(cx:Cx)(slot:Nat):List yen->Mem->(List V->Mem->Prop)->Prop
 |[],m,K=>K [] m
 |.z x::r,m,K=>yfr cx slot r m λvs m'=>K (.d x::vs) m'
 |.own s::r,m,K=>ymk cx slot m λi=>ztm m i (.row s.wr s.t s.sz 0 []) λm1=>yfr cx slot r m1 λvs m'=>K (.ref i 0 0 0::vs) m'
theorem z2k(cx:Cx)(slot:Nat):∀(l:List yen)(m:Mem)(K:List V->Mem->Prop),yfr cx slot l m K=K (zbs cx slot l m).1 (zbs cx slot l m).2
 |[],_,_=>rfl
 |.z x::r,m,K=>by simp only[yfr,zbs,z2k cx slot r]
 |.own s::r,m,K=>by simp only[yfr,zbs,zpc,zd1,z2k cx slot r]
mutual
def zh2(any:Bool)(m:Mem):V->(D->Prop)->Prop
 |.d x,K=>K x
 |.cl n cs,K=>K (.list n cs)
 |.agg cs,K=>zuy any m cs λds=>K (.agg ds)
 |.fn f [] [],K=>K (.fn f)
 |.ref o off len top,K=>znf m o λx=>
  match x with
  |some (.row wr _ sz n xs)=>
   (match(!wr||any)with
   |true=>zem (n=top/\off+len<=n) (K (.list len (if off=0/\len=n then xs else win xs (off*sz) (len*sz))))
   |false=>False)
  |_=>False
 |_,_=>False
def zuy(any:Bool)(m:Mem):List V->(List D->Prop)->Prop
 |[],K=>K []
 |v::r,K=>zh2 any m v λd=>zuy any m r λds=>K (d::ds)
end
mutual
theorem zrg(any:Bool)(m:Mem):∀(v:V)(K:D->Prop),zh2 any m v K->∃d,freeze any m v=some d/\K d
 |.d x,K,h=>⟨x,rfl,h⟩
 |.agg cs,K,h=>by
  obtain⟨ds,h1,h2⟩:=zo4 any m cs _ h;exact⟨_,by simp only[freeze,h1];rfl,h2⟩
 |.ref o off len top,K,h=>by
  simp only[zh2,zds]at h;simp only[freeze];cases hl:look m o with
  |none=>rw[hl]at h;exact h.elim
  |some x=>
   rw[hl]at h;cases x with
   |row wr t sz n xs=>
    simp only at h⊢
    split at h
    ·rename_i hw;have hc:(wr=false\/any=true)/\n=top/\off+len<=n:=⟨by cases wr<;>simp_all,h.need⟩;exact⟨_,if_pos hc,h.go⟩
    exact h.elim
   |_=>exact h.elim
 |.tup _,_,h=>(by simp only[zh2]at h)
 |.ptr ..,_,h=>(by simp only[zh2]at h)
 |.lptr ..,_,h=>(by simp only[zh2]at h)
 |.cl n cs,K,h=>⟨_,rfl,h⟩
 |.fn f [] [],K,h=>⟨_,rfl,h⟩
 |.fn _ (_::_) _,_,h=>(by simp only[zh2]at h)
 |.fn _ [] (_::_),_,h=>(by simp only[zh2]at h)
 |.yld _,_,h=>(by simp only[zh2]at h)
 |.mp _,_,h=>(by simp only[zh2]at h)
 |.it _,_,h=>(by simp only[zh2]at h)
 |.skip,_,h=>(by simp only[zh2]at h)
 |.undef,_,h=>(by simp only[zh2]at h)
theorem zo4(any:Bool)(m:Mem):∀(vs:List V)(K:List D->Prop),zuy any m vs K->∃ds,freezeL any m vs=some ds/\K ds
 |[],K,h=>⟨[],rfl,h⟩
 |v::r,K,h=>by
  obtain⟨d,h1,h2⟩:=zrg any m v _ h;obtain⟨ds,h3,h4⟩:=zo4 any m r _ h2;exact⟨d::ds,by simp only[freezeL,h1,h3],h4⟩
end
def yut:List D->(List V->Prop)->Prop
 |[],K=>K []
 |x::r,K=>yut r λvs=>K (.d x::vs)
theorem z27:∀(l:List D)(K:List V->Prop),yut l K=K (asV l)
 |[],_=>rfl
 |x::r,K=>by simp only[yut,asV,z27 r]
def yqa(m:Mem)(v:V)(K:V->Prop):Prop:=
 match v with
 |.tup vs=>zuy true m vs λxs=>yut xs λys=>K (.tup ys)
 |v=>zh2 true m v λd=>K (.d d)
theorem yka(m:Mem)(v:V)(K:V->Prop)(h:yqa m v K):∃r,thaw m v=some r/\K r:=by
 have simple:∀v:V,(∀vs,v≠.tup vs)->zh2 true m v (λd=>K (.d d))->∃r,thaw m v=some r/\K r:=by
  intro v hv h;obtain⟨d,h1,h2⟩:=zrg true m v _ h;refine⟨.d d,?_,h2⟩;unfold thaw
  split
  ·rename_i vs;exact absurd rfl (hv vs)
  rw[h1];rfl
 cases v with
 |tup vs=>
  obtain⟨xs,h1,h2⟩:=zo4 true m vs _ h;rw[z27]at h2;exact⟨_,by simp only[thaw,h1];rfl,h2⟩
 |_=>exact simple _ (by intro vs hh;cases hh) h
def yq0:List V->(Option (List D)->Prop)->Prop
 |[],K=>K (some [])
 |.d x::r,K=>yq0 r λo=>
  match o with
  |some ds=>K (some (x::ds))
  |none=>K none
 |_::_,K=>K none
theorem yho:∀(l:List V)(K:Option (List D)->Prop),yq0 l K=K (zvj l)
 |[],_=>rfl
 |v::r,K=>by
  cases v with
  |d x=>simp only[yq0,zvj,yho r];cases zvj r<;>rfl
  |_=>rfl
def yy9(cs:List V)(K:V->Prop):Prop:=yq0 cs λo=>
 match o with
 |some ds=>K (.d (.agg ds))
 |none=>K (.agg cs)
theorem yms(cs:List V)(K:V->Prop):yy9 cs K=K (yf0 cs):=by
 simp only[yy9,yho,yf0];cases zvj cs<;>rfl
def ybv(v:V)(K:List V->Prop):Prop:=
 match v with
 |.d (.agg cs)=>yut cs K
 |.agg cs=>K cs
 |.tup _=>False
 |.skip=>False
 |.undef=>False
 |v=>K [v]
theorem z3t(v:V)(K:List V->Prop)(h:ybv v K):∃cs,cellsOf v=some cs/\K cs:=by
 cases v with
 |d x=>
  cases x with
  |agg cs=>simp only[ybv,z27]at h;exact⟨_,rfl,h⟩
  |_=>exact⟨_,rfl,h⟩
 |tup _=>exact h.elim
 |skip=>exact h.elim
 |undef=>exact h.elim
 |_=>exact⟨_,rfl,h⟩
def over{α:Type}:List α->Nat->List α->List α
 |cs,0,[]=>cs
 |_::cs,0,x::xs=>x::over cs 0 xs
 |c::cs,n+1,xs=>c::over cs n xs
 |[],_,_=>[]
theorem yc8{α:Type}:∀(cs xs:List α),xs.length<=cs.length->over cs 0 xs=xs++cs.drop xs.length
 |cs,[],_=>by simp[over]
 |[],x::xs,h=>by simp at h
 |c::cs,x::xs,h=>by
  simp only[over,yc8 cs xs (by simpa using h)];simp
theorem ygf{α:Type}:∀(cs:List α)(off:Nat)(xs:List α),off+xs.length<=cs.length->over cs off xs=patch cs off xs
 |cs,0,xs,h=>by
  rw[yc8 cs xs (by omega)];simp[patch]
 |[],n+1,xs,h=>by simp at h
 |c::cs,n+1,xs,h=>by
  simp only[over,ygf cs n xs (by simp at h;omega),patch];simp[Nat.add_right_comm]
def z6p{α:Type}:List α->Nat->List α->(List α->Prop)->Prop
 |cs,0,[],K=>K cs
 |_::cs,0,x::xs,K=>z6p cs 0 xs λr=>K (x::r)
 |c::cs,n+1,xs,K=>z6p cs n xs λr=>K (c::r)
 |[],_,_,K=>K []
theorem z2o{α:Type}:∀(cs:List α)(off:Nat)(xs:List α)(K:List α->Prop),z6p cs off xs K=K (over cs off xs)
 |cs,0,[],K=>by simp only[z6p,over]
 |[],0,x::xs,K=>by simp only[z6p,over]
 |c::cs,0,x::xs,K=>by simp only[z6p,over,z2o cs 0 xs]
 |[],n+1,xs,K=>by simp only[z6p,over]
 |c::cs,n+1,xs,K=>by simp only[z6p,over,z2o cs n xs]
def yu9(cs:List V):List (Nat×Nat×V)->(List V->Prop)->Prop
 |[],K=>K cs
 |(off,n,v)::r,K=>ybv v λxs=>
  match Nat.beq xs.length n with
  |true=>(match Nat.ble (off+n) cs.length with
   |true=>z6p cs off xs λcs'=>yu9 cs' r K
   |false=>False)
  |false=>False
theorem yh8:∀(l:List (Nat×Nat×V))(cs:List V)(K:List V->Prop),yu9 cs l K->∃cs',yce cs l=some cs'/\K cs'
 |[],cs,K,h=>⟨cs,rfl,h⟩
 |(off,n,v)::r,cs,K,h=>by
  obtain⟨xs,h1,h2⟩:=z3t v _ h
  split at h2
  ·rename_i e1
   split at h2
   ·rename_i e2;have e1':=Nat.eq_of_beq_eq_true e1;have e2':=Nat.le_of_ble_eq_true e2;rw[z2o]at h2;obtain⟨cs',h3,h4⟩:=yh8 r _ K h2;refine⟨cs',?_,h4⟩;simp only[yce,h1];rw[if_pos ⟨e1',e2'⟩,<-ygf cs off xs (by omega)];exact h3
   exact h2.elim
  exact h2.elim
def yjc(e:Env):List (Nat×Nat×Opd)->(List (Nat×Nat×V)->Prop)->Prop
 |[],K=>K []
 |(a,b,x)::r,K=>opK e x λv=>yjc e r λl=>K ((a,b,v)::l)
theorem yc9(e:Env):∀(l:List (Nat×Nat×Opd))(K:List (Nat×Nat×V)->Prop),yjc e l K=K (zy5 e l)
 |[],_=>rfl
 |(a,b,x)::r,K=>by simp only[yjc,zy5,zcm,yc9 e r]
def ye0(m:Mem)(v:V)(K:List D->Prop):Prop:=zh2 false m v λd=>
 match d with
 |.agg cs=>K cs
 |x=>K [x]
theorem z7c(m:Mem)(v:V)(K:List D->Prop)(h:ye0 m v K):∃cs,zsz m v=some cs/\K cs:=by
 obtain⟨d,h1,h2⟩:=zrg false m v _ h;unfold zsz;rw[h1];cases d<;>exact⟨_,rfl,h2⟩
def ycv(sz:Nat)(m:Mem):List V->(List D->Prop)->Prop
 |[],K=>K []
 |v::r,K=>ye0 m v λx=>match Nat.beq x.length sz with
  |true=>ycv sz m r λxs=>K (x++xs)
  |false=>False
theorem zyz(sz:Nat)(m:Mem):∀(l:List V)(K:List D->Prop),ycv sz m l K->∃ds,ztk sz m l=some ds/\K ds
 |[],K,h=>⟨[],rfl,h⟩
 |v::r,K,h=>by
  obtain⟨x,h1,h2⟩:=z7c m v _ h
  split at h2
  ·rename_i e;obtain⟨xs,h3,h4⟩:=zyz sz m r _ h2;refine⟨x++xs,?_,h4⟩;simp only[ztk,h1,h3,if_pos (Nat.eq_of_beq_eq_true e)]
  exact h2.elim
structure zom(n:Nat)(l h:Int)(K:Nat->Nat->Prop):Prop where
 ok:0<=h/\h<=n/\0<=l/\l<=h
 go:K l.toNat h.toNat
def zzp(n:Nat)(lo hi:Option V)(K:Nat->Nat->Prop):Prop:=
 match lo,hi with
 |none,none=>K 0 n
 |some (.d (.int _ l)),none=>zom n l n K
 |none,some (.d (.int _ h))=>zom n 0 h K
 |some (.d (.int _ l)),some (.d (.int _ h))=>zom n l h K
 |_,_=>False
theorem zuv(n:Nat)(lo hi:Option V)(K:Nat->Nat->Prop)(h:zzp n lo hi K):∃p,zdd n lo hi=some p/\K p.1 p.2:=by
 unfold zzp at h
 split at h
 ·refine⟨(0,n),?_,h⟩;simp[zdd]
 ·rename_i k l;refine⟨(l.toNat,(n:Int).toNat),?_,h.go⟩;simp only[zdd,asI];exact if_pos h.ok
 ·rename_i k l;refine⟨((0:Int).toNat,l.toNat),?_,h.go⟩;simp only[zdd,asI];exact if_pos h.ok
 ·rename_i k l k' l';refine⟨(l.toNat,l'.toNat),?_,h.go⟩;simp only[zdd,asI];exact if_pos h.ok
 exact h.elim
def yom(n:Option Nat)(cs:List V)(off:Nat)(K:V->Prop):Prop:=
 match n with
 |none=>ykd cs off K
 |some n=>zem (off+n<=cs.length) (yy9 (win cs off n) K)
theorem ydb(n:Option Nat)(cs:List V)(off:Nat)(K:V->Prop)(h:yom n cs off K):∃v,ylf n cs off=some v/\K v:=by
 cases n with
 |none=>obtain⟨d,h1,h2⟩:=h.got;exact⟨d,h1,h2⟩
 |some n=>obtain⟨h1,h2⟩:=h;rw[yms]at h2;exact⟨_,if_pos h1,h2⟩
def yda(n:Option Nat)(cs:List D)(off:Nat)(K:V->Prop):Prop:=
 match n with
 |none=>zgp cs off λd=>K (.d d)
 |some n=>za2 cs off n λds=>K (.d (.agg ds))
theorem zy7(n:Option Nat)(cs:List D)(off:Nat)(K:V->Prop)(h:yda n cs off K):∃v,z6q n cs off=some v/\K v:=by
 cases n with
 |none=>obtain⟨d,h1,h2⟩:=h.got;exact⟨_,by simp only[z6q,h1];rfl,h2⟩
 |some n=>obtain⟨h1,h2⟩:=h;exact⟨_,if_pos h1,h2⟩
def yrz(n:Option Nat)(m:Mem)(a:V)(K:V->Prop):Prop:=
 match a with
 |.lptr cs off=>yda n cs off K
 |.ptr o off top=>znf m o λx=>
  match x with
  |some (.cells _ cs)=>yom n cs off K
  |some (.row _ _ _ l xs)=>zem (l=top) (yda n xs off K)
  |_=>False
 |_=>False
theorem yiz(n:Option Nat)(m:Mem)(a:V)(K:V->Prop)(h:yrz n m a K):∃v,z4r n m a=some v/\K v:=by
 unfold yrz at h
 split at h
 ·exact zy7 _ _ _ _ h
 ·rename_i o off top;rw[zds]at h;simp only[z4r]
  split at h
  ·rename_i hl;rw[hl];exact ydb _ _ _ _ h
  ·rename_i hl;rw[hl];obtain⟨v,h1,h2⟩:=zy7 _ _ _ _ h.go;exact⟨v,(if_pos h.need).trans h1,h2⟩
  exact h.elim
 exact h.elim
def yj7(n:Nat)(m:Mem)(a x:V)(K:Mem->Prop):Prop:=
 match a with
 |.ptr o off top=>znf m o λy=>
  match y with
  |some (.cells t cs)=>ybv x λxs=>zem (xs.length=n/\off+n<=cs.length) (z6p cs off xs λcs'=>ztm m o (.cells t cs') K)
  |some (.row true t sz l xs)=>ye0 m x λds=>zem (ds.length=n/\off+n<=xs.length/\l=top) (ztm m o (.row true t sz l (patch xs off ds)) K)
  |_=>False
 |_=>False
theorem yd6(n:Nat)(m:Mem)(a x:V)(K:Mem->Prop)(h:yj7 n m a x K):∃m',zzg n m a x=some m'/\K m':=by
 unfold yj7 at h
 split at h
 ·rename_i o off top;rw[zds]at h;simp only[zzg]
  split at h
  ·rename_i hl;rw[hl];obtain⟨xs,h1,h2,h3⟩:=z3t x _ h;rw[z2o,zd1,ygf _ _ _ (by omega)]at h3;simp only[h1];exact⟨_,if_pos h2,h3⟩
  ·rename_i hl;rw[hl];obtain⟨ds,h1,h2,h3⟩:=z7c m x _ h;rw[zd1]at h3;simp only[h1];exact⟨_,if_pos h2,h3⟩
  exact h.elim
 exact h.elim
def ypp(sz:Nat)(m:Mem)(x:V)(lo hi mx:Option V)(K:V->Prop):Prop:=
 match x with
 |.d (.list n cs)=>zzp n lo hi λl h=>
  match mx with
  |none=>K (.d (.list (h-l) (win cs (l*sz) ((h-l)*sz))))
  |some _=>zem (hi.isSome/\mx.bind asI=hi.bind asI) (K (.d (.list (h-l) (win cs (l*sz) ((h-l)*sz)))))
 |.ref o off len top=>znf m o λy=>
  match y with
  |some (.row wr _ sz' n xs)=>zem (n=top/\off+len<=n/\sz'=sz) (zzp len lo hi λl h=>
   match mx with
   |none=>(match wr with
    |true=>K (.ref o (off+l) (h-l) top)
    |false=>K (.d (.list (h-l) (win xs ((off+l)*sz) ((h-l)*sz)))))
   |some _=>False)
  |_=>False
 |.d .nil=>zzp 0 lo hi λ_ _=>
  match mx with
  |none=>K (.d .nil)
  |some _=>False
 |_=>False
theorem ypq(sz:Nat)(m:Mem)(x:V)(lo hi mx:Option V)(K:V->Prop)(h:ypp sz m x lo hi mx K):∃v,zwf sz m x lo hi mx=some v/\K v:=by
 unfold ypp at h
 split at h
 ·obtain⟨p,h1,h2⟩:=zuv _ _ _ _ h;obtain⟨l,hh⟩:=p;simp only[zwf,h1];cases mx with
  |none=>exact⟨_,if_pos (Or.inl rfl),h2⟩
  |some y=>exact⟨_,if_pos (Or.inr h2.need),h2.go⟩
 ·rename_i o off len top;rw[zds]at h;simp only[zwf]
  split at h
  ·rename_i wr t1 sz1 n1 xs1 hl;rw[hl];obtain⟨h0,h⟩:=h;obtain⟨p,h1,h2⟩:=zuv _ _ _ _ h;obtain⟨l,hh⟩:=p;simp only[if_pos h0,h1];cases mx with
   |none=>
    cases wr with
    |true=>exact⟨_,by simp,h2⟩
    |false=>exact⟨_,by simp,h2⟩
   |some y=>exact h2.elim
  exact h.elim
 ·obtain⟨p,h1,h2⟩:=zuv _ _ _ _ h;simp only[zwf,h1];cases mx with
  |none=>exact⟨_,if_pos rfl,h2⟩
  |some y=>exact h2.elim
 exact h.elim
def z90(sz:Nat)(m:Mem)(x i:V)(K:V->Prop):Prop:=
 match i with
 |.d (.int _ i)=>
  (match x with
  |.d (.list n cs)=>zem (0<=i/\i<n) (K (.lptr cs (i.toNat*sz)))
  |.ref o off len top=>znf m o λy=>
   match y with
   |some (.row _ _ sz' n _)=>zem (0<=i/\i<len/\n=top/\off+len<=n/\sz'=sz) (K (.ptr o ((off+i.toNat)*sz) top))
   |_=>False
  |_=>False)
 |_=>False
theorem yfo(sz:Nat)(m:Mem)(x i:V)(K:V->Prop)(h:z90 sz m x i K):∃v,zn8 sz m x i=some v/\K v:=by
 unfold z90 at h
 split at h
 ·split at h
  ·exact⟨_,if_pos h.need,h.go⟩
  ·rw[zds]at h
   split at h
   ·rename_i hl;simp only[zn8,asI,hl];exact⟨_,if_pos h.need,h.go⟩
   exact h.elim
  exact h.elim
 exact h.elim
def yr3(off:Nat)(m:Mem)(v:V)(K:V->Prop):Prop:=
 match v with
 |.lptr cs b=>K (.lptr cs (b+off))
 |.ptr o b top=>znf m o λx=>
  match x with
  |some (.cells ..)=>K (.ptr o (b+off) top)
  |some (.row _ _ _ n _)=>zem (n=top) (K (.ptr o (b+off) top))
  |_=>False
 |_=>False
theorem yi4(off:Nat)(m:Mem)(v:V)(K:V->Prop)(h:yr3 off m v K):∃r,zhf off m v=some r/\K r:=by
 unfold yr3 at h
 split at h
 ·exact⟨_,rfl,h⟩
 ·rw[zds]at h
  split at h
  ·rename_i hl;exact⟨_,by simp only[zhf,ybb,hl];rfl,h⟩
  ·rename_i hl;exact⟨_,by simp only[zhf,ybb,hl,h.need];simp,h.go⟩
  exact h.elim
 exact h.elim
def ysb(n:Option Nat)(x:V)(off:Nat)(K:V->Prop):Prop:=
 match x with
 |.d (.agg cs)=>yda n cs off K
 |.agg cs=>yom n cs off K
 |_=>False
theorem yjb(n:Option Nat)(x:V)(off:Nat)(K:V->Prop)(h:ysb n x off K):∃r,ygh n x off=some r/\K r:=by
 unfold ysb at h
 split at h
 ·exact zy7 _ _ _ _ h
 ·exact ydb _ _ _ _ h
 exact h.elim
def yzy(m:Mem)(k:Kd)(v:V)(K:Nat->Prop):Prop:=
 match k with
 |.str=>(match v with
  |.d (.str s)=>K s.length
  |_=>False)
 |.slc=>(match v with
  |.d (.list n _)=>K n
  |.d .nil=>K 0
  |.cl n _=>K n
  |.ref o _ len top=>znf m o λx=>
   match x with
   |some (.row _ _ _ n _)=>zem (n=top) (K len)
   |_=>False
  |_=>False)
 |.map=>(match v with
  |.mp o=>znf m o λx=>
   match x with
   |some (.map es)=>K es.length
   |_=>False
  |_=>False)
 |.cap=>(match v with
  |.d .nil=>K 0
  |_=>False)
theorem yvi(m:Mem)(k:Kd)(v:V)(K:Nat->Prop)(h:yzy m k v K):∃n,ymj m k v=some n/\K n:=by
 unfold yzy at h
 split at h
 ·split at h
  ·exact⟨_,rfl,h⟩
  exact h.elim
 ·split at h
  ·exact⟨_,rfl,h⟩
  ·exact⟨_,rfl,h⟩
  ·exact⟨_,rfl,h⟩
  ·rw[zds]at h
   split at h
   ·rename_i hl;exact⟨_,by simp only[ymj,hl];exact if_pos h.need,h.go⟩
   exact h.elim
  exact h.elim
 ·split at h
  ·rw[zds]at h
   split at h
   ·rename_i hl;exact⟨_,by simp only[ymj,hl],h⟩
   exact h.elim
  exact h.elim
 split at h
 ·exact⟨_,rfl,h⟩
 exact h.elim
def yb9(m:Mem)(v:V)(K:Nat->List D->Prop):Prop:=
 match v with
 |.d (.list n cs)=>K n cs
 |.d .nil=>K 0 []
 |.ref o off len top=>znf m o λx=>
  match x with
  |some (.row _ _ sz n xs)=>zem (n=top/\off+len<=n) (K len (if off=0/\len=n then xs else win xs (off*sz) (len*sz)))
  |_=>False
 |_=>False
theorem z32(m:Mem)(v:V)(K:Nat->List D->Prop)(h:yb9 m v K):∃p,z30 m v=some p/\K p.1 p.2:=by
 unfold yb9 at h
 split at h
 ·exact⟨_,rfl,h⟩
 ·exact⟨_,rfl,h⟩
 ·rw[zds]at h
  split at h
  ·rename_i hl;exact⟨_,by simp only[z30,hl];exact if_pos h.need,h.go⟩
  exact h.elim
 exact h.elim
def zxo(cx:Cx)(slot:Nat)(r:zd6)(m:Mem)(k:Nat)(ds:List D)(s:V)(K:V->Mem->Prop):Prop:=
 match s with
 |.ref o off len top=>znf m o λx=>
  match x with
  |some (.row wr t sz n xs)=>
   zem (off=0/\len=n/\n=top/\t=r.t/\sz=r.sz/\ds.length=k*sz/\(n+k)*r.by_<=140737488355328/\n+k<=140737488355328)
    (ztm m o (.row wr t sz (n+k) (xs++ds)) λm'=>K (.ref o 0 (n+k) (n+k)) m')
  |_=>False
 |.d .nil=>zem (k≠0/\ds.length=k*r.sz/\k*r.by_<=140737488355328/\k<=140737488355328) (ymk cx slot m λi=>ztm m i (.row r.wr r.t r.sz k ds) λm'=>K (.ref i 0 k k) m')
 |.cl n cs=>zem (k≠0/\ds.length=k*r.sz/\cs.length=n*r.sz/\(n+k)*r.by_<=140737488355328/\n+k<=140737488355328) (ymk cx slot m λi=>ztm m i (.row r.wr r.t r.sz (n+k) (cs++ds)) λm'=>K (.ref i 0 (n+k) (n+k)) m')
 |_=>False
theorem zwi(cx:Cx)(slot:Nat)(r:zd6)(m:Mem)(k:Nat)(ds:List D)(s:V)(K:V->Mem->Prop)(h:zxo cx slot r m k ds s K):
  ∃p,zp8 cx slot r m (some (k,ds)) s=some p/\K p.1 p.2:=by
 unfold zxo at h
 split at h
 ·rw[zds]at h
  split at h
  ·rename_i hl;obtain⟨⟨h1,h2,h3,h4,h5,h6,h7,h8⟩,h9⟩:=h;rw[zd1]at h9;refine⟨(_,_),?_,h9⟩;simp only[zp8,hl];exact if_pos ⟨h1,h2,h3,h4,h5,h6,by simp[z5f,h7,h8]⟩
  exact h.elim
 ·obtain⟨⟨h1,h2,h3,h4⟩,h9⟩:=h;rw[zpc,zd1]at h9;refine⟨(_,_),?_,h9⟩;simp only[zp8];exact if_pos ⟨h1,h2,by simp[z5f,h3,h4]⟩
 ·obtain⟨⟨h1,h2,h0,h3,h4⟩,h9⟩:=h;rw[zpc,zd1]at h9;refine⟨(_,_),?_,h9⟩;simp only[zp8];exact if_pos ⟨h1,h2,h0,by simp[z5f,h3,h4]⟩
 exact h.elim
def eqB:D->D->(Prop->Prop)->Prop
 |.int k a,.int l b,K=>(match decide (k=l)with
  |true=>K (a=b)
  |false=>False)
 |.bool a,.bool b,K=>K (a=b)
 |.str a,.str b,K=>K (a=b)
 |_,_,_=>False
def yu6:List D->List D->(Prop->Prop)->Prop
 |[],[],K=>K True
 |[x],[y],K=>eqB x y K
 |x::x2::r,y::y2::s,K=>eqB x y λp=>yu6 (x2::r) (y2::s) λq=>K (p/\q)
 |_,_,_=>False
theorem ytz(x y:D)(K:Prop->Prop)(h:eqB x y K):∃b p,eqD x y=some b/\(b=true↔p)/\K p:=by
 unfold eqB at h
 split at h
 ·split at h
  ·rename_i a _ b _ e;exact⟨decide (a=b),a=b,by simp only[eqD];exact if_pos (of_decide_eq_true e),by simp,h⟩
  exact h.elim
 ·rename_i a b;exact⟨a==b,a=b,rfl,by simp,h⟩
 ·rename_i a b;exact⟨a==b,a=b,rfl,by simp,h⟩
 exact h.elim
theorem yng:∀(xs ys:List D)(K:Prop->Prop),yu6 xs ys K->∃b p,eqL xs ys=some b/\(b=true↔p)/\K p
 |[],[],_,h=>⟨true,True,rfl,by simp,h⟩
 |[x],[y],K,h=>by
  obtain⟨a,p,h1,h2,h3⟩:=ytz x y _ h;exact⟨a&&true,p,by simp only[eqL,h1],by simpa using h2,h3⟩
 |x::x2::r,y::y2::s,K,h=>by
  obtain⟨a,p,h1,h2,h3⟩:=ytz x y _ h;obtain⟨b,q,h4,h5,h6⟩:=yng (x2::r) (y2::s) _ h3;refine⟨a&&b,p/\q,?_,by simp[h2,h5],h6⟩;rw[eqL,h1,h4]
 |[],_::_,_,h=>(by simp only[yu6]at h)
 |_::_,[],_,h=>(by simp only[yu6]at h)
 |[_],_::_::_,_,h=>(by simp only[yu6]at h)
 |_::_::_,[_],_,h=>(by simp only[yu6]at h)
def yzs(ks:Option (List KK))(x y:V)(K:Bool->Prop):Prop:=
 match ks with
 |none=>
  (match x,y with
  |.d (.bool a),.d (.bool b)=>K (a==b)
  |_,_=>False)
 |some ks=>
  (match x,y with
  |.d (.agg a),.d (.agg b)=>
   (match zda ks a&&zda ks b with
   |true=>yu6 a b λp=>Cmp p (K true) (K false)
   |false=>False)
  |_,_=>False)
theorem yu7(ks:Option (List KK))(x y:V)(K:Bool->Prop)(h:yzs ks x y K):∃b,eqV ks x y=some b/\K b:=by
 unfold yzs at h
 split at h
 ·split at h
  ·exact⟨_,rfl,h⟩
  exact h.elim
 split at h
 ·split at h
  ·rename_i hk;obtain⟨b,p,h1,h2,h3⟩:=yng _ _ _ h;refine⟨b,by simp only[eqV];rw[if_pos hk];exact h1,?_⟩;cases b with
   |true=>exact h3.yes (h2.1 rfl)
   |false=>exact h3.no λhp=>Bool.noConfusion (h2.2 hp)
  exact h.elim
 exact h.elim
def yu2(p:Prop)(K:D->Prop):Prop:=Cmp p (K (.bool true)) (K (.bool false))
theorem ym8{p:Prop}[Decidable p]{K:D->Prop}(h:yu2 p K):K (.bool (decide p)):=by
 by_cases hp:p
 ·have:=h.yes hp;simpa[hp]using this
 have:=h.no hp;simpa[hp]using this
def yvp(p:Prop)(K:D->Prop):Prop:=Cmp p (K (.bool false)) (K (.bool true))
theorem yi7{p:Prop}[Decidable p]{K:D->Prop}(h:yvp p K):K (.bool (!decide p)):=by
 by_cases hp:p
 ·have:=h.yes hp;simpa[hp]using this
 have:=h.no hp;simpa[hp]using this
def yew(op:BinOp)(k:IntKind)(a b:Int)(K:D->Prop):Prop:=
 match op with
 |.add=>Wr k (a+b) λn=>K (.int k n)
 |.sub=>Wr k (a-b) λn=>K (.int k n)
 |.mul=>Wr k (a*b) λn=>K (.int k n)
 |.quo=>Quo k a b λn=>K (.int k n)
 |.rem=>Rem a b λn=>K (.int k n)
 |.and=>K (.int k (k.wrap ((BitVec.ofInt k.bits a&&&BitVec.ofInt k.bits b).toNat)))
 |.or=>K (.int k (k.wrap ((BitVec.ofInt k.bits a|||BitVec.ofInt k.bits b).toNat)))
 |.xor=>K (.int k (k.wrap ((BitVec.ofInt k.bits a^^^BitVec.ofInt k.bits b).toNat)))
 |.andNot=>K (.int k (k.wrap ((BitVec.ofInt k.bits a&&&~~~ BitVec.ofInt k.bits b).toNat)))
 |.eql=>yu2 (a=b) K
 |.neq=>yvp (a=b) K
 |.lss=>yu2 (a<b) K
 |.leq=>yu2 (a<=b) K
 |.gtr=>yu2 (b<a) K
 |.geq=>yu2 (b<=a) K
 |_=>False
theorem ykj(op:BinOp)(k:IntKind)(a b:Int)(K:D->Prop)(h:yew op k a b K):∃d,z3c op k a b=some d/\K d:=by
 cases op<;>simp only[yew]at h<;>simp only[z3c]
 all_goals first|exact⟨_,rfl,h.go⟩|exact⟨_,if_neg h.ne,h.go⟩|exact⟨_,rfl,h⟩|exact⟨_,rfl,ym8 h⟩|exact⟨_,rfl,yi7 h⟩
def yex(op:BinOp)(a b:List UInt8)(K:D->Prop):Prop:=
 match op with
 |.add=>zem (a.length+b.length<=z4t) (K (.str (a++b)))
 |.eql=>yu2 (a=b) K
 |.neq=>yvp (a=b) K
 |.lss=>K (.bool (zal a b))
 |.leq=>K (.bool (zal a b||a==b))
 |.gtr=>K (.bool (!(zal a b||a==b)))
 |.geq=>K (.bool (!zal a b))
 |_=>False
theorem ykk(op:BinOp)(a b:List UInt8)(K:D->Prop)(h:yex op a b K):∃d,z7a op a b=some d/\K d:=by
 have hb:(a==b)=decide (a=b):=by by_cases e:a=b<;>simp[e]
 cases op<;>simp only[yex]at h<;>simp only[z7a]
 all_goals first|exact⟨_,if_pos h.need,h.go⟩|exact⟨_,rfl,by rw[hb];exact ym8 h⟩|exact⟨_,rfl,by rw[hb];exact yi7 h⟩|exact⟨_,rfl,h⟩
def yzl(op:BinOp)(x y:V)(K:D->Prop):Prop:=
 match x,y with
 |.d (.int k a),.d (.int l b)=>
  (match op with
  |.shl=>zem (0<=b) (Wr k (a*2^(min b.toNat k.bits)) λn=>K (.int k n))
  |.shr=>zem (0<=b) (K (.int k (a.fdiv (2^(min b.toNat k.bits)))))
  |_=>(match decide (k=l)with
   |true=>yew op k a b K
   |false=>False))
 |.d (.str a),.d (.str b)=>yex op a b K
 |_,_=>False
theorem yux(op:BinOp)(x y:V)(K:D->Prop)(h:yzl op x y K):∃d,ywx op x y=some d/\K d:=by
 unfold yzl at h
 split at h
 ·simp only[ywx]
  split at h
  ·exact⟨_,if_pos h.need,h.go.go⟩
  ·exact⟨_,if_pos h.need,h.go⟩
  rename_i n1 n2
  split at h
  ·rename_i e;obtain⟨d,h1,h2⟩:=ykj _ _ _ _ _ h;refine⟨d,?_,h2⟩;cases op<;>first|exact(if_pos (of_decide_eq_true e)).trans h1|exact absurd rfl n1|exact absurd rfl n2
  exact h.elim
 ·exact ykk _ _ _ _ h
 exact h.elim
def zy0(mx:Bool)(k:IntKind):Int->List V->(D->Prop)->Prop
 |a,[],K=>K (.int k a)
 |a,.d (.int _ b)::r,K=>
  (match mx with
  |true=>zy0 mx k (if b>a then b else a) r K
  |false=>zy0 mx k (if b<a then b else a) r K)
 |_,_::_,_=>False
def yfz(mx:Bool)(l:List V)(K:D->Prop):Prop:=
 match l with
 |.d (.int k a)::r=>zy0 mx k a r K
 |_=>False
theorem zxb(mx:Bool)(k:IntKind):∀(l:List V)(a:Int)(K:D->Prop),zy0 mx k a l K->∃d,zsn.go mx k a l=some d/\K d
 |[],a,K,h=>⟨.int k a,rfl,h⟩
 |v::r,a,K,h=>by
  unfold zy0 at h
  split at h
  ·rename_i e;cases e
  ·rename_i _ _ _ a' b r' K' e;obtain⟨rfl,rfl⟩:=(List.cons.injEq ..).mp e;simp only[zsn.go];cases mx with
   |true=>exact zxb true k r _ _ h
   |false=>exact zxb false k r _ _ h
  exact h.elim
theorem yla(mx:Bool)(l:List V)(K:D->Prop)(h:yfz mx l K):∃d,zsn mx l=some d/\K d:=by
 unfold yfz at h
 split at h
 ·exact zxb mx _ _ _ K h
 exact h.elim
end Go.Evl
namespace Go.Evl
def yvj(nx:Nat):List Id->Bool
 |[]=>true
 |i::r=>match Nat.blt i.lv nx with
  |true=>yvj nx r
  |false=>false
theorem z4s(nx:Nat):∀(l:List Id),yvj nx l=zk1 nx l
 |[]=>rfl
 |i::r=>by
  simp only[yvj];cases h:Nat.blt i.lv nx with
  |true=>
   have:i.lv<nx:=Nat.le_of_ble_eq_true h;simp only[z4s nx r];simp[zk1,this]
  |false=>
   have:¬i.lv<nx:=λhh=>by
    have:=Nat.ble_eq_true_of_le (show i.lv+1<=nx from hh);simp only[Nat.blt]at h;rw[this]at h;cases h
   simp[zk1,this]
def yft:Mem->(List Id->Prop)->Prop
 |[],K=>K []
 |(i,_)::r,K=>yft r λl=>K (i::l)
theorem zyw:∀(m:Mem)(K:List Id->Prop),yft m K=K (zoi m)
 |[],_=>rfl
 |(i,o)::r,K=>by simp only[yft,zyw r];rfl
def z69(nx:Nat):Mem->(Mem->Prop)->Prop
 |[],K=>K []
 |(i,o)::r,K=>match Nat.blt i.lv nx with
  |true=>z69 nx r λr'=>K ((i,o)::r')
  |false=>z69 nx r K
theorem zxz(nx:Nat):∀(m:Mem)(K:Mem->Prop),z69 nx m K=K (ze1 nx m)
 |[],_=>rfl
 |(i,o)::r,K=>by
  simp only[z69];cases h:Nat.blt i.lv nx with
  |true=>
   have:i.lv<nx:=Nat.le_of_ble_eq_true h;simp only[zxz nx r];simp[ze1,this]
  |false=>
   have:¬i.lv<nx:=λhh=>by
    have:=Nat.ble_eq_true_of_le (show i.lv+1<=nx from hh);simp only[Nat.blt]at h;rw[this]at h;cases h
   simp only[zxz nx r];simp[ze1,this]
def zxy(cx:Cx)(slot:Nat)(imm:Bool)(v:V)(m':Mem)(K:V->Mem->Prop):Prop:=z69 cx.nx m' λold=>
 match yvj cx.nx (idsAll old)with
 |true=>(match imm with
  |true=>(match(ids v).all λi=>Nat.ble cx.nx i.lv with
   |true=>yqa m' v λr=>K r old
   |false=>False)
  |false=>zto (settle cx slot cx.nx old m' v) λp=>K p.1 p.2)
 |false=>False
def callW(E:Oracle)(cx:Cx)(slot:Nat)(shared imm:Bool)(f:V)(args:List V)(m:Mem)(K:V->Mem->Prop):Prop:=
 match shared with
 |false=>(match f with
  |.fn f first caps=>zuy false m (first++args++caps) λds=>yut ds λvs=>
   (match imm with
   |true=>zaf E f vs λv=>K v m
   |false=>zd5 E f vs cx slot m K)
  |_=>False)
 |true=>yft m λks=>(match yvj cx.nx ks with
  |true=>(match f with
   |.fn f first caps=>In E cx.nx f (first++args++caps) m λv m'=>zxy cx slot imm v m' K
   |.yld o=>Rnd E cx.nx o args m λv m'=>zxy cx slot imm v m' K
   |_=>False)
  |false=>False)
section
variable{E:Oracle}
theorem z86{cx:Cx}{slot:Nat}{imm:Bool}{v:V}{m':Mem}{K:V->Mem->Prop}(h:zxy cx slot imm v m' K):
  ∃p,(if zk1 cx.nx (idsAll (ze1 cx.nx m'))then zpu cx slot cx.nx imm (ze1 cx.nx m') m' v else none)=some p/\K p.1 p.2:=by
 simp only[zxy,zxz,z4s]at h
 split at h
 ·rename_i hl;rw[if_pos hl]
  split at h
  ·split at h
   ·rename_i ha;obtain⟨r,h1,h2⟩:=yka _ _ _ h;refine⟨(r,ze1 cx.nx m'),?_,h2⟩
    have ha':((ids v).all λi=>decide (cx.nx<=i.lv))=true:=by
     rw[List.all_eq_true]at ha⊢;intro i hi;simpa using Nat.le_of_ble_eq_true (ha i hi)
    simp only[zpu,if_true,ha',h1]
    rfl
   exact h.elim
  obtain⟨p,h1,h2⟩:=h.got;exact⟨p,by simp only[zpu];exact h1,h2⟩
 exact h.elim
theorem callW_ok{cx:Cx}{slot:Nat}{shared imm:Bool}{f:V}{args:List V}{m:Mem}{K:V->Mem->Prop}(h:callW E cx slot shared imm f args m K):
  ∃p,zlz E cx slot shared imm f args m=some p/\K p.1 p.2:=by
 unfold callW at h
 split at h
 ·split at h
  ·rename_i f first caps
   obtain⟨ds,h1,h2⟩:=zo4 _ _ _ _ h;rw[z27]at h2;simp only[zlz,h1]
   split at h2
   ·obtain⟨r,⟨v,m',h3,h4⟩,h5⟩:=h2.got;refine⟨(r,m),?_,h5⟩;have hall:((ids v).all λi=>decide (0<=i.lv))=true:=by simp
    simp only[h3,zpu,hall,h4]
    rfl
   obtain⟨v,m',p,h3,h4,h5⟩:=h2.got;refine⟨p,?_,h5⟩;simp only[h3,zpu,h4]
   rfl
  exact h.elim
 simp only[zyw,z4s]at h
 split at h
 ·rename_i hl;simp only[zlz,if_true,hl]
  split at h
  ·obtain⟨v,m',h1,h2⟩:=h.got;simp only[zja,h1];exact z86 h2
  ·obtain⟨v,m',h1,h2⟩:=h.got;simp only[zja,h1];exact z86 h2
  exact h.elim
 exact h.elim
structure zxi(key:D)(es:List (D×V))(K:Option V->Prop):Prop where
 got:∃r,zii key es=some r/\K r
structure yql(key:D)(x:V)(es:List (D×V))(K:List (D×V)->Prop):Prop where
 got:∃r,setE key x es=some r/\K r
structure z2z(s:List UInt8)(pos:Nat)(some_:Int->Nat->Prop)(none_:Prop):Prop where
 yes:pos<s.length->some_ (Utf8.decode ⟨s.toArray⟩ pos).1 (Utf8.decode ⟨s.toArray⟩ pos).2
 no:¬pos<s.length->none_
def yfv(kk:KK)(zero:D)(ok:Bool)(m:Mem)(x key:V)(K:V->Prop):Prop:=
 match key with
 |.d key=>
  (match zjd kk key with
  |true=>(match x with
   |.mp o=>znf m o λob=>
    match ob with
    |some (.map es)=>zxi key es λr=>K (yt4 zero ok r)
    |_=>False
   |.d .nilm=>K (yt4 zero ok none)
   |_=>False)
  |false=>False)
 |_=>False
theorem yk8{kk:KK}{zero:D}{ok:Bool}{m:Mem}{x key:V}{K:V->Prop}(h:yfv kk zero ok m x key K):∃v,zqu kk zero ok m x key=some v/\K v:=by
 unfold yfv at h
 split at h
 ·split at h
  ·rename_i hk;simp only[zqu,if_pos hk]
   split at h
   ·rw[zds]at h
    split at h
    ·rename_i hl;obtain⟨r,h1,h2⟩:=h.got;exact⟨_,by simp only[hl,h1];rfl,h2⟩
    exact h.elim
   ·exact⟨_,rfl,h⟩
   exact h.elim
  exact h.elim
 exact h.elim
def yzz(m:Mem)(x:V)(K:Nat->Bool->Prop):Prop:=
 match x with
 |.d .nilp=>K 0 true
 |.d .nilf=>K 4 true
 |.d .nili=>K 1 true
 |.d (.ifc true)=>K 1 false
 |.d .nilm=>K 3 true
 |.d (.fn _)=>K 4 false
 |.d (.list n _)=>zem (n≠0) (K 2 false)
 |.fn ..=>K 4 false
 |.lptr ..=>K 0 false
 |.ptr o _ top=>znf m o λob=>
  match ob with
  |some (.cells ..)=>K 0 false
  |some (.row _ _ _ n _)=>zem (n=top) (K 0 false)
  |_=>False
 |.ref o off len top=>znf m o λob=>
  match ob with
  |some (.row _ _ _ n _)=>zem (n=top/\off+len<=n/\len≠0) (K 2 false)
  |_=>False
 |_=>False
theorem yvq{m:Mem}{x:V}{K:Nat->Bool->Prop}(h:yzz m x K):∃k b,yn5 m x=some (k,b)/\K k b:=by
 unfold yzz at h
 split at h
 ·exact⟨_,_,rfl,h⟩
 ·exact⟨_,_,rfl,h⟩
 ·exact⟨_,_,rfl,h⟩
 ·exact⟨_,_,rfl,h⟩
 ·exact⟨_,_,rfl,h⟩
 ·exact⟨_,_,rfl,h⟩
 ·rename_i n cs;cases n with
  |zero=>exact absurd rfl h.need
  |succ n=>exact⟨_,_,rfl,h.go⟩
 ·exact⟨_,_,rfl,h⟩
 ·exact⟨_,_,rfl,h⟩
 ·rw[zds]at h
  split at h
  ·rename_i hl;exact⟨_,_,by simp only[yn5,ybb,hl];rfl,h⟩
  ·rename_i hl;exact⟨_,_,by simp[yn5,ybb,hl,h.need],h.go⟩
  exact h.elim
 ·rw[zds]at h
  split at h
  ·rename_i hl;exact⟨_,_,by simp only[yn5,hl];exact if_pos h.need,h.go⟩
  exact h.elim
 exact h.elim
def z97(kk:KK)(m:Mem)(x key v:V)(K:V->Mem->Prop):Prop:=
 match x,key with
 |.mp o,.d key=>znf m o λob=>
  (match ob with
  |some (.map es)=>(match zjd kk key&&(cellsOf v).isSome with
   |true=>yql key v es λes'=>ztm m o (.map es') λm'=>K .skip m'
   |false=>False)
  |_=>False)
 |_,_=>False
theorem z71{kk:KK}{m:Mem}{x key v:V}{K:V->Mem->Prop}(h:z97 kk m x key v K):∃m',zjz kk m x key v=some m'/\K .skip m':=by
 unfold z97 at h
 split at h
 ·rw[zds]at h
  split at h
  ·rename_i hl
   split at h
   ·rename_i hb;obtain⟨r,h1,h2⟩:=h.got;rw[zd1]at h2;exact⟨_,by simp only[zjz,hl,if_pos hb,h1];rfl,h2⟩
   exact h.elim
  exact h.elim
 exact h.elim
structure znw(E:Oracle)(f:V)(args:List V)(m:Mem)(K:V->Prop):Prop where
 got:∃v,zyi E f args m=some v/\K v
structure zuu(E:Oracle)(imm:Bool)(f:V)(args:List V)(m:Mem)(K:V->Mem->Prop):Prop where
 got:∃v m',zt2 E imm f args m=some (v,m')/\K v m'
def ym3(E:Oracle)(f:V)(args:List V)(m:Mem)(K:V->Mem->Prop):Prop:=
 match f with
 |.fn f first caps=>zuy true m (first++args++caps) λds=>yut ds λvs=>zrr E f vs λv=>K v m
 |_=>False
theorem ym4{E:Oracle}{f:V}{args:List V}{m:Mem}{K:V->Mem->Prop}(h:ym3 E f args m K):∃p,z3s E f args m=some p/\K p.1 p.2:=by
 unfold ym3 at h
 split at h
 ·obtain⟨ds,h1,h2⟩:=zo4 _ _ _ _ h;rw[z27]at h2;obtain⟨v,m',r,h3,h4,h5,h6⟩:=h2.got;refine⟨(r,m),?_,h6⟩;simp only[z3s,h1,h3,h5,Option.map_some];exact if_pos h4
 exact h.elim
def zla(E:Oracle)(cx:Cx)(slot:Nat)(e:Env)(m:Mem)(op:COp)(K:V->Mem->Prop):Prop:=
 match op with
 |.mv x=>opK e x λv=>K v m
 |.ownNil r=>ymk cx slot m λi=>ztm m i (.row r.wr r.t r.sz 0 []) λm'=>K (.ref i 0 0 0) m'
 |.pick c a b=>opK e c λc=>
  match c with
  |.d (.bool t)=>Br t (opK e a λv=>K v m) (opK e b λv=>K v m)
  |_=>False
 |.alloc t cs=>yfr cx slot cs m λvs m1=>ymk cx slot m1 λi=>ztm m1 i (.cells t vs) λm2=>K (.ptr i 0 0) m2
 |.box t x=>opK e x λv=>ybv v λcs=>ymk cx slot m λi=>ztm m i (.cells t cs) λm2=>K (.ptr i 0 0) m2
 |.build zero parts=>yfr cx slot zero m λvs m1=>yjc e parts λps=>yu9 vs ps λcs=>yy9 cs λv=>K v m1
 |.mkList sz n parts=>ycb e parts λvs=>ycv sz m vs λds=>K (.d (.list n ds)) m
 |.mkListD sz n parts=>ycb e parts λvs=>Chk (yip vs) (ycv sz [] vs λds=>K (.d (.list n ds)) m)
 |.mkRow r n parts=>ycb e parts λvs=>ycv r.sz m vs λds=>ymk cx slot m λi=>ztm m i (.row r.wr r.t r.sz n ds) λm2=>K (.ref i 0 n n) m2
 |.load n a=>opK e a λa=>yrz n m a λv=>K v m
 |.store n a x=>opK e a λa=>opK e x λx=>yj7 n m a x λm'=>K .skip m'
 |.nilCheck x=>opK e x λv=>
  match v with
  |.fn f a b=>K (.fn f a b) m
  |.d (.fn f)=>K (.fn f [] []) m
  |.lptr cs o=>K (.lptr cs o) m
  |.ptr o off top=>znf m o λob=>
   match ob with
   |some (.cells ..)=>K (.ptr o off top) m
   |some (.row _ _ _ n _)=>zem (n=top) (K (.ptr o off top) m)
   |_=>False
  |_=>False
 |.bin op x y=>opK e x λx=>opK e y λy=>yzl op x y λd=>K (.d d) m
 |.eqv ks neg x y=>opK e x λx=>opK e y λy=>yzs ks x y λb=>
  match neg with
  |true=>K (.d (.bool (!b))) m
  |false=>K (.d (.bool b)) m
 |.un op x=>opK e x λx=>
  match op,x with
  |.not,.d (.bool b)=>K (.d (.bool (!b))) m
  |.neg,.d (.int k n)=>Wr k (0-n) λn=>K (.d (.int k n)) m
  |_,_=>False
 |.conv k x=>opK e x λx=>
  match x with
  |.d (.int _ n)=>Wr k n λn=>K (.d (.int k n)) m
  |_=>False
 |.mkFunc f first caps=>ycb e first λa=>ycb e caps λb=>K (.fn f a b) m
 |.sliceS x lo hi=>opK e x λx=>opK? e lo λlo=>opK? e hi λhi=>
  match x with
  |.d (.str s)=>zzp s.length lo hi λl h=>K (.d (.str (win s l (h-l)))) m
  |_=>False
 |.slice sz x lo hi mx=>opK e x λx=>opK? e lo λlo=>opK? e hi λhi=>opK? e mx λmx=>ypp sz m x lo hi mx λv=>K v m
 |.fieldAddr off x=>opK e x λx=>yr3 off m x λv=>K v m
 |.field off n x=>opK e x λx=>ysb n x off λv=>K v m
 |.idxAddr sz x i=>opK e x λx=>opK e i λi=>z90 sz m x i λv=>K v m
 |.idxAddrA len sz x i=>opK e x λx=>opK e i λi=>
  match i with
  |.d (.int _ i)=>zem (0<=i/\i<len) (yr3 (i.toNat*sz) m x λv=>K v m)
  |_=>False
 |.idxS x i=>opK e x λx=>opK e i λi=>
  match x,i with
  |.d (.str s),.d (.int _ i)=>zem (0<=i) (ymo s i.toNat λb=>K (.d (.int .u8 b.toNat)) m)
  |_,_=>False
 |.idxA len sz n x i=>opK e x λx=>opK e i λi=>
  match i with
  |.d (.int _ i)=>zem (0<=i/\i<len) (ysb n x (i.toNat*sz) λv=>K v m)
  |_=>False
 |.mkMap=>ymk cx slot m λi=>ztm m i (.map []) λm'=>K (.mp i) m'
 |.lookup kk zero ok x key=>opK e x λx=>opK e key λkey=>yfv kk zero ok m x key λv=>K v m
 |.mapSet kk x key v=>opK e x λx=>opK e key λkey=>opK e v λv=>z97 kk m x key v K
 |.mapSetR kk x key v rs=>opK e x λx=>opK e key λkey=>opK e v λv=>ykx e rs λvs=>Chk (yhp x vs) (z97 kk m x key v K)
 |.callD f args=>opK e f λf=>ycb e args λvs=>
  match zrq f with
  |.fn g [] []=>Chk (yip vs) (callW E cx slot false true (.fn g [] []) vs m K)
  |_=>False
 |.callQ f args=>opK e f λf=>ycb e args λvs=>znw E (zrq f) vs m λv=>K v m
 |.callU imm f args=>opK e f λf=>ycb e args λvs=>zuu E imm (zrq f) vs m K
 |.callZ f args=>opK e f λf=>ycb e args λvs=>ym3 E (zrq f) vs m K
 |.callK imm f args=>opK e f λf=>ycb e args λvs=>callW E cx slot true imm (zrq f) vs m λv m'=>Chk (leM m m' m) (K v m)
 |.callN f args=>opK e f λf=>ycb e args λvs=>
  match zrq f with
  |.fn g [] []=>Chk (yip vs) (callW E cx slot false false (.fn g [] []) vs m K)
  |_=>False
 |.nilEq kd neg x=>opK e x λx=>yzz m x λk b=>Chk (Nat.beq k kd) (K (.d (.bool (if neg then !b else b))) m)
 |.loadD n a=>opK e a λa=>
  match a with
  |.lptr cs off=>yda n cs off λv=>K v m
  |_=>False
 |.sliceC _ x hi mx=>opK e x λx=>opK e hi λhi=>opK e mx λmx=>
  match x with
  |.d (.list n cs)=>(match hi with
   |.d (.int _ h)=>(match mx with
    |.d (.int _ k)=>zem (h=n/\k=n) (K (.cl n cs) m)
    |_=>False)
   |_=>False)
  |_=>False
 |.sealMv x=>opK e x λv=>ywg m v λm'=>K v m'
 |.fieldAddrD off x=>opK e x λx=>
  match x with
  |.lptr cs b=>K (.lptr cs (b+off)) m
  |_=>False
 |.idxAddrD sz x i=>opK e x λx=>opK e i λi=>
  match x with
  |.d (.list n cs)=>(match i with
   |.d (.int _ i)=>zem (0<=i/\i<n) (K (.lptr cs (i.toNat*sz)) m)
   |_=>False)
  |_=>False
 |.appendIn r s x=>opK e s λs=>opK e x λx=>yb9 m x λk ds=>
  match s with
  |.ref o off len top=>znf m o λob=>
   match ob with
   |some (.row true t sz n xs)=>zem (n=top/\off+len+k<=n/\off+len<n/\t=r.t/\sz=r.sz/\ds.length=k*sz)
    (ztm m o (.row true t sz n (patch xs ((off+len)*sz) ds)) λm'=>K (.ref o off (len+k) top) m')
   |_=>False
  |_=>False
 |.rangeS x=>opK e x λx=>
  match x with
  |.d (.str s)=>ymk cx slot m λi=>ztm m i (.iter s 0) λm'=>K (.it i) m'
  |_=>False
 |.nextS x=>opK e x λx=>
  match x with
  |.it o=>znf m o λob=>
   match ob with
   |some (.iter s pos)=>z2z s pos (λc w=>ztm m o (.iter s (pos+w)) λm'=>K (.tup [.d (.bool true),.d (.int .i64 pos),.d (.int .i32 c)]) m') (K (.tup [.d (.bool false)]) m)
   |_=>False
  |_=>False
 |.extract x i=>opK e x λx=>
  match x with
  |.tup vs=>ykd vs i λv=>K v m
  |_=>False
 |.call shared imm f args=>opK e f λf=>ycb e args λvs=>callW E cx slot shared imm (zrq f) vs m K
 |.storeR n a x rs=>opK e a λa=>opK e x λx=>ykx e rs λvs=>Chk (yhq a vs) (yj7 n m a x λm'=>K .skip m')
 |.bad=>False
 |.appendZ r zero s n=>opK e s λs=>opK e n λn=>
  match s,n with
  |.d .nil,.d (.int .i64 n)=>zem (0<n/\zero.length=r.sz/\n.toNat*r.by_<=140737488355328/\n.toNat<=140737488355328)
   (ymk cx slot m λi=>ztm m i (.row r.wr r.t r.sz n.toNat (List.replicate n.toNat zero).flatten) λm'=>K (.ref i 0 n.toNat n.toNat) m')
  |_,_=>False
 |.callB imm f args b=>∃p,zqt (λm=>zlz E cx slot true imm (zrq (f.ev e)) (evs e args) m) m (get e b)=some p/\K p.1 p.2
 |.callR imm f args rs=>opK e f λf=>ycb e args λvs=>ykx e rs λws=>callW E cx slot true imm (zrq f) vs m λv m'=>Chk (z94 m m' ws) (K v m')
 |.len k x=>opK e x λx=>yzy m k x λn=>K (.d (.int .i64 (n:Int))) m
 |.append r s x=>opK e s λs=>opK e x λx=>yb9 m x λk ds=>zxo cx slot r m k ds s K
 |.appendF r s x=>opK e s λs=>opK e x λx=>yb9 m x λk ds=>zxo cx slot r m k ds s λv m'=>zh2 false m' v λd=>K (.d d) m'
 |.strB x=>opK e x λx=>
  match x with
  |.d (.list 1 [.int .u8 n])=>K (.d (.str [UInt8.ofNat n.toNat])) m
  |_=>False
 |.appendS r s x=>opK e s λs=>opK e x λx=>
  match x,s with
  |.d (.str b),.ref o off len top=>zxo cx slot r m b.length (yhv b) (.ref o off len top) K
  |_,_=>False
 |.minmax mx args=>ycb e args λvs=>yfz mx vs λd=>K (.d d) m
 |.clear zero x=>opK e x λx=>zto (yhx zero m x) λm'=>K .skip m'
theorem yhl{cx:Cx}{slot:Nat}{e:Env}{m:Mem}{op:COp}{K:V->Mem->Prop}(h:zla E cx slot e m op K):∃p,zc5 E cx slot e m op=some p/\K p.1 p.2:=by
 cases op with
 |mv x=>simp only[zla,zcm]at h;exact⟨(_,_),rfl,h⟩
 |ownNil r=>simp only[zla,zpc,zd1]at h;exact⟨(_,_),rfl,h⟩
 |pick c a b=>
  simp only[zla,zcm]at h;simp only[zc5]
  split at h
  ·rename_i t ht;rw[ht];refine⟨(if t then a.ev e else b.ev e,m),rfl,?_⟩;cases t with
   |true=>exact h.yes rfl
   |false=>exact h.no rfl
  exact h.elim
 |alloc t cs=>simp only[zla,z2k,zpc,zd1]at h;exact⟨(_,_),rfl,h⟩
 |box t x=>
  simp only[zla,zcm]at h;obtain⟨cs,h1,h2⟩:=z3t _ _ h;simp only[zpc,zd1]at h2;exact⟨(_,_),by simp only[zc5,h1],h2⟩
 |build zero parts=>
  simp only[zla,z2k,yc9]at h;obtain⟨cs,h1,h2⟩:=yh8 _ _ _ h;rw[yms]at h2;exact⟨(_,_),by simp only[zc5,h1];rfl,h2⟩
 |mkList sz n parts=>
  simp only[zla,zli]at h;obtain⟨cs,h1,h2⟩:=zyz _ _ _ _ h;exact⟨(_,_),by simp only[zc5,h1];rfl,h2⟩
 |mkListD sz n parts=>
  simp only[zla,zli]at h;obtain⟨hc,h⟩:=h;obtain⟨cs,h1,h2⟩:=zyz _ _ _ _ h;exact⟨(_,_),by simp only[zc5,hc,if_true,h1];rfl,h2⟩
 |mkRow r n parts=>
  simp only[zla,zli]at h;obtain⟨cs,h1,h2⟩:=zyz _ _ _ _ h;simp only[zpc,zd1]at h2;exact⟨(_,_),by simp only[zc5,h1];rfl,h2⟩
 |load n a=>
  simp only[zla,zcm]at h;obtain⟨v,h1,h2⟩:=yiz _ _ _ _ h;exact⟨(_,_),by simp only[zc5,h1];rfl,h2⟩
 |store n a x=>
  simp only[zla,zcm]at h;obtain⟨v,h1,h2⟩:=yd6 _ _ _ _ _ h;exact⟨(_,_),by simp only[zc5,h1];rfl,h2⟩
 |nilCheck x=>
  simp only[zla,zcm]at h;simp only[zc5]
  split at h
  ·rename_i hx;rw[hx];exact⟨(_,_),rfl,h⟩
  ·rename_i hx;rw[hx];exact⟨(_,_),rfl,h⟩
  ·rename_i hx;rw[hx];exact⟨(_,_),rfl,h⟩
  ·rename_i hx;rw[hx];rw[zds]at h
   split at h
   ·rename_i hl;exact⟨(_,_),by simp only[ybb,hl];rfl,h⟩
   ·rename_i hl;exact⟨(_,_),by simp[ybb,hl,h.need],h.go⟩
   exact h.elim
  exact h.elim
 |bin op x y=>
  simp only[zla,zcm]at h;obtain⟨v,h1,h2⟩:=yux _ _ _ _ h;exact⟨(_,_),by simp only[zc5,h1];rfl,h2⟩
 |eqv ks neg x y=>
  simp only[zla,zcm]at h;obtain⟨v,h1,h2⟩:=yu7 _ _ _ _ h;cases neg<;>exact⟨(_,_),by simp only[zc5,h1];rfl,h2⟩
 |un op x=>
  simp only[zla,zcm]at h;simp only[zc5]
  split at h
  ·rename_i hx;rw[hx];exact⟨(_,_),rfl,h⟩
  ·rename_i hx;rw[hx];exact⟨(_,_),rfl,h.go⟩
  exact h.elim
 |conv k x=>
  simp only[zla,zcm]at h;simp only[zc5]
  split at h
  ·rename_i hx;rw[hx];exact⟨(_,_),rfl,h.go⟩
  exact h.elim
 |mkFunc f first caps=>simp only[zla,zli]at h;exact⟨(_,_),rfl,h⟩
 |sliceS x lo hi=>
  simp only[zla,zcm,opK?_eq]at h;simp only[zc5]
  split at h
  ·rename_i hx;rw[hx];obtain⟨p,h1,h2⟩:=zuv _ _ _ _ h;obtain⟨l,hh⟩:=p;simp only[h1];exact⟨(_,_),rfl,h2⟩
  exact h.elim
 |slice sz x lo hi mx=>
  simp only[zla,zcm,opK?_eq]at h;obtain⟨v,h1,h2⟩:=ypq _ _ _ _ _ _ _ h;exact⟨(_,_),by simp only[zc5,h1];rfl,h2⟩
 |fieldAddr off x=>
  simp only[zla,zcm]at h;obtain⟨v,h1,h2⟩:=yi4 _ _ _ _ h;exact⟨(_,_),by simp only[zc5,h1];rfl,h2⟩
 |field off n x=>
  simp only[zla,zcm]at h;obtain⟨v,h1,h2⟩:=yjb _ _ _ _ h;exact⟨(_,_),by simp only[zc5,h1];rfl,h2⟩
 |idxAddr sz x i=>
  simp only[zla,zcm]at h;obtain⟨v,h1,h2⟩:=yfo _ _ _ _ _ h;exact⟨(_,_),by simp only[zc5,h1];rfl,h2⟩
 |idxAddrA len sz x i=>
  simp only[zla,zcm]at h;simp only[zc5]
  split at h
  ·rename_i hx;rw[hx];obtain⟨h0,h⟩:=h;obtain⟨v,h1,h2⟩:=yi4 _ _ _ _ h;simp only[asI,if_pos h0,h1];exact⟨(_,_),rfl,h2⟩
  exact h.elim
 |idxS x i=>
  simp only[zla,zcm]at h;simp only[zc5]
  split at h
  ·rename_i hx hi;rw[hx,hi];obtain⟨h0,h⟩:=h;obtain⟨b,h1,h2⟩:=h.got;simp only[asI,if_pos h0,h1];exact⟨(_,_),rfl,h2⟩
  exact h.elim
 |idxA len sz n x i=>
  simp only[zla,zcm]at h;simp only[zc5]
  split at h
  ·rename_i hx;rw[hx];obtain⟨h0,h⟩:=h;obtain⟨v,h1,h2⟩:=yjb _ _ _ _ h;simp only[asI,if_pos h0,h1];exact⟨(_,_),rfl,h2⟩
  exact h.elim
 |mkMap=>simp only[zla,zpc,zd1]at h;exact⟨(_,_),rfl,h⟩
 |lookup kk zero ok x key=>
  simp only[zla,zcm]at h;obtain⟨v,h1,h2⟩:=yk8 h;exact⟨(_,_),by simp only[zc5,h1];rfl,h2⟩
 |mapSet kk x key v=>
  simp only[zla,zcm]at h;obtain⟨m',h1,h2⟩:=z71 h;exact⟨(_,_),by simp only[zc5,h1];rfl,h2⟩
 |mapSetR kk x key v rs=>
  simp only[zla,zcm,z2j]at h;obtain⟨hc,h⟩:=h;obtain⟨m',h1,h2⟩:=z71 h;exact⟨(_,_),by simp only[zc5,if_pos hc,h1];rfl,h2⟩
 |callK imm f args=>
  simp only[zla,zcm,zli]at h;obtain⟨⟨v,m'⟩,h1,hc,h2⟩:=callW_ok h;exact⟨(v,m),by simp only[zc5,h1,if_pos hc],h2⟩
 |callQ f args=>
  simp only[zla,zcm,zli]at h;obtain⟨v,h1,h2⟩:=h.got;exact⟨(v,m),by simp only[zc5,h1];rfl,h2⟩
 |callZ f args=>
  simp only[zla,zcm,zli]at h;obtain⟨p,h1,h2⟩:=ym4 h;exact⟨p,by simp only[zc5,h1],h2⟩
 |callU b f args=>
  simp only[zla,zcm,zli]at h;obtain⟨v,m',h1,h2⟩:=h.got;exact⟨(v,m'),by simp only[zc5,h1],h2⟩
 |callN f args=>
  simp only[zla,zcm,zli]at h;simp only[zc5]
  split at h
  ·rename_i hf;rw[hf];obtain⟨hc,h⟩:=h;obtain⟨p,h1,h2⟩:=callW_ok h;exact⟨p,by simp only[hc,if_true];exact h1,h2⟩
  exact h.elim
 |callD f args=>
  simp only[zla,zcm,zli]at h;simp only[zc5]
  split at h
  ·rename_i hf;rw[hf];obtain⟨hc,h⟩:=h;obtain⟨p,h1,h2⟩:=callW_ok h;exact⟨p,by simp only[hc,if_true];exact h1,h2⟩
  exact h.elim
 |nilEq kd neg x=>
  simp only[zla,zcm]at h;obtain⟨k,b,h1,hc,h2⟩:=yvq h;exact⟨(_,_),by simp only[zc5,h1];exact if_pos (Nat.eq_of_beq_eq_true hc),h2⟩
 |loadD n a=>
  simp only[zla,zcm]at h;simp only[zc5]
  split at h
  ·rename_i ha;rw[ha];obtain⟨v,h1,h2⟩:=zy7 _ _ _ _ h;exact⟨(_,_),by simp only[h1];rfl,h2⟩
  exact h.elim
 |sliceC sz x hi mx=>
  simp only[zla,zcm]at h;simp only[zc5]
  split at h
  ·rename_i hx;rw[hx]
   split at h
   ·rename_i hh;rw[hh]
    split at h
    ·rename_i hm;rw[hm];exact⟨(_,_),if_pos h.need,h.go⟩
    exact h.elim
   exact h.elim
  exact h.elim
 |sealMv x=>
  simp only[zla,zcm]at h;exact⟨(_,_),rfl,ys4 _ _ _ h⟩
 |fieldAddrD off x=>
  simp only[zla,zcm]at h;simp only[zc5]
  split at h
  ·rename_i hx;rw[hx];exact⟨(_,_),rfl,h⟩
  exact h.elim
 |idxAddrD sz x i=>
  simp only[zla,zcm]at h;simp only[zc5]
  split at h
  ·rename_i hx;rw[hx]
   split at h
   ·rename_i hi;rw[hi];exact⟨(_,_),if_pos h.need,h.go⟩
   exact h.elim
  exact h.elim
 |appendIn r s x=>
  simp only[zla,zcm]at h;obtain⟨⟨k,ds⟩,h1,h2⟩:=z32 _ _ _ h;simp only[zc5,zxn,h1]
  split at h2
  ·rename_i hs;rw[hs];rw[zds]at h2
   split at h2
   ·rename_i hl;obtain⟨hc,h3⟩:=h2;rw[zd1]at h3;exact⟨(_,_),by simp only[hl];exact if_pos hc,h3⟩
   exact h2.elim
  exact h2.elim
 |rangeS x=>
  simp only[zla,zcm]at h;simp only[zc5]
  split at h
  ·rename_i hx;rw[hx];simp only[zpc,zd1]at h;exact⟨(_,_),rfl,h⟩
  exact h.elim
 |nextS x=>
  simp only[zla,zcm]at h;simp only[zc5]
  split at h
  ·rename_i hx;rw[hx];rw[zds]at h
   split at h
   ·rename_i s pos hl;simp only[zd1]at h;simp only[yr4,hl]
    by_cases hp:pos<s.length
    ·exact⟨(_,_),if_pos hp,h.yes hp⟩
    exact⟨(_,_),if_neg hp,h.no hp⟩
   exact h.elim
  exact h.elim
 |extract x i=>
  simp only[zla,zcm]at h;simp only[zc5]
  split at h
  ·rename_i hx;rw[hx];obtain⟨v,h1,h2⟩:=h.got;exact⟨(_,_),by simp only[h1];rfl,h2⟩
  exact h.elim
 |call shared imm f args=>
  simp only[zla,zcm,zli]at h;exact callW_ok h
 |storeR n a x rs=>
  simp only[zla,zcm,z2j]at h;obtain⟨hc,h⟩:=h;obtain⟨v,h1,h2⟩:=yd6 _ _ _ _ _ h;exact⟨(_,_),by simp only[zc5,if_pos hc,h1];rfl,h2⟩
 |callB imm f args b=>exact h
 |bad=>exact h.elim
 |appendZ r zero s n=>
  simp only[zla,zcm]at h;simp only[zc5]
  split at h
  ·rename_i hs hn;rw[hs,hn];obtain⟨⟨h1,h2,h3,h4⟩,h5⟩:=h;rw[zpc,zd1]at h5;exact⟨(_,_),if_pos ⟨h1,h2,by simp[z5f,h3,h4]⟩,h5⟩
  exact h.elim
 |callR imm f args rs=>
  simp only[zla,zcm,zli,z2j]at h;obtain⟨⟨v,m'⟩,h1,hc,h2⟩:=callW_ok h;exact⟨(v,m'),by simp only[zc5,h1,if_pos hc],h2⟩
 |len k x=>
  simp only[zla,zcm]at h;obtain⟨v,h1,h2⟩:=yvi _ _ _ _ h;exact⟨(_,_),by simp only[zc5,h1];rfl,h2⟩
 |append r s x=>
  simp only[zla,zcm]at h;obtain⟨⟨k,ds⟩,h1,h2⟩:=z32 _ _ _ h;simp only[zc5,zwj,h1];exact zwi _ _ _ _ _ _ _ _ h2
 |appendF r s x=>
  simp only[zla,zcm]at h;obtain⟨⟨k,ds⟩,h1,h2⟩:=z32 _ _ _ h;obtain⟨⟨v,m'⟩,h3,h4⟩:=zwi _ _ _ _ _ _ _ _ h2;obtain⟨d,h5,h6⟩:=zrg _ _ _ _ h4;exact⟨(_,_),by simp only[zc5,zwj,h1,h3,h5];rfl,h6⟩
 |strB x=>
  simp only[zla,zcm]at h;simp only[zc5]
  split at h
  ·rename_i hx;rw[hx];exact⟨(_,_),rfl,h⟩
  exact h.elim
 |appendS r s x=>
  simp only[zla,zcm]at h;simp only[zc5]
  split at h
  ·rename_i hx hs;rw[hx,hs];simp only[zxp];exact zwi _ _ _ _ _ _ _ _ h
  exact h.elim
 |minmax mx args=>
  simp only[zla,zli]at h;obtain⟨v,h1,h2⟩:=yla _ _ _ h;exact⟨(_,_),by simp only[zc5,h1];rfl,h2⟩
 |clear zero x=>
  simp only[zla,zcm]at h;obtain⟨v,h1,h2⟩:=h.got;exact⟨(_,_),by simp only[zc5,h1];rfl,h2⟩
def ywt(E:Oracle)(cx:Cx)(e:Env)(m:Mem)(o:CO)(K:V->Mem->Prop):Prop:=
 match o with
 |⟨dst,none,op⟩=>zla E cx (dst.getD 0) e m op K
 |⟨dst,some (t,want),op⟩=>yqr e t λg=>
  match g with
  |.d (.bool b)=>(match want with
   |true=>Br b (zla E cx (dst.getD 0) e m op K) (K .skip m)
   |false=>Br b (K .skip m) (zla E cx (dst.getD 0) e m op K))
  |.skip=>K .skip m
  |_=>False
theorem ytl{cx:Cx}{e:Env}{m:Mem}{o:CO}{K:V->Mem->Prop}(h:ywt E cx e m o K):∃p,zey E cx e m o=some p/\K p.1 p.2:=by
 obtain⟨dst,guard,op⟩:=o;cases guard with
 |none=>exact yhl h
 |some g=>
  obtain⟨t,want⟩:=g;simp only[ywt,zud]at h;simp only[zey]
  split at h
  ·rename_i b hb;rw[hb]
   cases want<;>cases b
   ·exact yhl (h.no rfl)
   ·exact⟨(_,_),rfl,h.yes rfl⟩
   ·exact⟨(_,_),rfl,h.no rfl⟩
   exact yhl (h.yes rfl)
  ·rename_i hb;rw[hb];exact⟨(_,_),rfl,h⟩
  exact h.elim
def wpOps(E:Oracle)(cx:Cx):List CO->Env->Mem->(Env->Mem->Prop)->Prop
 |[],e,m,K=>K e m
 |o::r,e,m,K=>ywt E cx e m o λv m'=>put?K e o.dst v λe'=>wpOps E cx r e' m' K
theorem wpOps_ok{cx:Cx}:∀(os:List CO)(e:Env)(m:Mem)(K:Env->Mem->Prop),wpOps E cx os e m K->∃p,zjb E cx os e m=some p/\K p.1 p.2
 |[],e,m,K,h=>⟨(e,m),rfl,h⟩
 |o::r,e,m,K,h=>by
  obtain⟨⟨v,m'⟩,h1,h2⟩:=ytl h;rw[put?K_eq]at h2;obtain⟨p,h3,h4⟩:=wpOps_ok r _ _ K h2;exact⟨p,by simp only[zjb,h1];exact h3,h4⟩
def y0k(K1:Env->Mem->Prop)(K:Ex->Env->Mem->Prop)(x:Ex)(e:Env)(m:Mem):Prop:=
 match x with
 |.normal=>K1 e m
 |.exit i=>K (.exit i) e m
 |.ret=>K .ret e m
def ytx(id:Nat)(K:Ex->Env->Mem->Prop)(x:Ex)(e:Env)(m:Mem):Prop:=
 match x with
 |.normal=>K .normal e m
 |.exit j=>(match Nat.beq j id with
  |true=>K .normal e m
  |false=>K (.exit j) e m)
 |.ret=>K .ret e m
def yt8(cx:Cx)(i:Id)(e:Env)(K:Ex->Env->Mem->Prop)(m':Mem):Prop:=znf m' i λo=>
 match o with
 |some (.loop _ _ _ _ _ false _ j)=>z69 cx.nx m' λmb=>
  (match yvj cx.nx (idsAll mb)with
  |true=>ztm mb i .gone λm2=>
   (match j with
   |none=>K .normal e m2
   |some (.exit id)=>K (.exit id) e m2
   |some .ret=>K .ret e m2)
  |false=>False)
 |_=>False
def wpC(E:Oracle)(cx:Cx):C->Env->Mem->(Ex->Env->Mem->Prop)->Prop
 |.skip,e,m,K=>K .normal e m
 |.label,e,m,K=>K .normal e m
 |.reg _ ops kill,e,m,K=>wpOps E cx ops e m λe' m'=>zvh kill e' λe''=>K .normal e'' m'
 |.regC ops kill chk,e,m,K=>wpOps E cx ops e m λe' m'=>Chk (yu5 e' chk) (zvh kill e' λe''=>K .normal e'' m')
 |.seq a b,e,m,K=>wpC E cx a e m (y0k (λe' m'=>wpC E cx b e' m' K) K)
 |.cond c a b,e,m,K=>opK e c λv=>
  match v with
  |.d (.bool t)=>Br t (wpC E cx a e m K) (wpC E cx b e m K)
  |_=>False
 |.block id c,e,m,K=>wpC E cx c e m (ytx id K)
 |.loop live c,e,m,K=>yoh e live λe'=>yft m λks=>gcK ks e' m λm'=>zab E cx live ks c e' m' K
 |.exit id,e,m,K=>K (.exit id) e m
 |.ret,e,m,K=>K .ret e m
 |.bad,_,_,_=>False
 |.scope c,e,m,K=>wpC E cx c e m K
 |.fz t c,e,m,K=>yqr e t λv=>zh2 false m v λd=>yw7 e t (.d d) λe'=>wpC E cx c e' m K
 |.rangeM pre it x out nxt pair live ops kill code,e,m,K=>wpOps E cx pre e m λe1 m1=>
  ∃x' e' m',znm (λe m=>(zjb E cx ops e m).bind λq=>evC E cx code (zdk kill q.1) q.2) cx it x out nxt pair live e1 m1=some (x',e',m')/\K x' e' m'
 |.rangeFn slot f ps a b,e,m,K=>ymk cx slot m λi=>ztm m i (.loop e ps a b cx.lv false false none) λm1=>yft m1 λks=>
  match yvj cx.nx ks with
  |true=>opK e f λfv=>
   (match fv with
   |.fn g first caps=>In E cx.nx g (first++[.yld i]++caps) m1 λ_ m'=>yt8 cx i e K m'
   |_=>False)
  |false=>False
theorem wpC_ok{cx:Cx}:∀(c:C)(e:Env)(m:Mem)(K:Ex->Env->Mem->Prop),wpC E cx c e m K->∃x e' m',evC E cx c e m=some (x,e',m')/\K x e' m'
 |.rangeM pre it x out nxt pair live ops kill code,e,m,K,h=>by
  obtain⟨p,h1,x',e',m',h2,h3⟩:=wpOps_ok pre e m _ h;exact⟨x',e',m',by simp only[evC,h1,Option.bind_some,h2],h3⟩
 |.skip,e,m,K,h=>⟨_,_,_,rfl,h⟩
 |.label,e,m,K,h=>⟨_,_,_,rfl,h⟩
 |.exit _,e,m,K,h=>⟨_,_,_,rfl,h⟩
 |.ret,e,m,K,h=>⟨_,_,_,rfl,h⟩
 |.bad,_,_,_,h=>h.elim
 |.fz t c,e,m,K,h=>by
  simp only[wpC,zud]at h;obtain⟨d,hd,h⟩:=zrg _ _ _ _ h;rw[yaj]at h;obtain⟨x,e',m',h1,h2⟩:=wpC_ok c _ m K h;exact⟨x,e',m',by simp only[evC,hd];exact h1,h2⟩
 |.scope c,e,m,K,h=>by
  obtain⟨x,e',m',h1,h2⟩:=wpC_ok c e m K h;exact⟨x,e',m',by simp only[evC];exact h1,h2⟩
 |.reg _ ops kill,e,m,K,h=>by
  obtain⟨p,h1,h2⟩:=wpOps_ok ops e m _ h;rw[zsy]at h2;exact⟨_,_,_,by simp only[evC,h1];rfl,h2⟩
 |.regC ops kill chk,e,m,K,h=>by
  obtain⟨p,h1,hc,h2⟩:=wpOps_ok ops e m _ h;rw[zsy]at h2;exact⟨_,_,_,by simp only[evC,h1,Option.bind_some];exact if_pos hc,h2⟩
 |.seq a b,e,m,K,h=>by
  obtain⟨x,e',m',h1,h2⟩:=wpC_ok a e m _ h;cases x with
  |normal=>
   obtain⟨x2,e2,m2,h3,h4⟩:=wpC_ok b e' m' K h2;exact⟨x2,e2,m2,by simp only[evC,h1];exact h3,h4⟩
  |_=>exact⟨_,_,_,by simp only[evC,h1],h2⟩
 |.cond c a b,e,m,K,h=>by
  simp only[wpC,zcm]at h;simp only[evC]
  split at h
  ·rename_i t ht;rw[ht];cases t with
   |true=>
    obtain⟨x2,e2,m2,h3,h4⟩:=wpC_ok a e m K (h.yes rfl);exact⟨x2,e2,m2,by simpa using h3,h4⟩
   |false=>
    obtain⟨x2,e2,m2,h3,h4⟩:=wpC_ok b e m K (h.no rfl);exact⟨x2,e2,m2,by simpa using h3,h4⟩
  exact h.elim
 |.block id c,e,m,K,h=>by
  obtain⟨x,e',m',h1,h2⟩:=wpC_ok c e m _ h;cases x with
  |exit j=>
   simp only[ytx]at h2;cases hb:Nat.beq j id with
   |true=>
    rw[hb]at h2;exact⟨.normal,e',m',by simp only[evC,h1];exact if_pos (Nat.eq_of_beq_eq_true hb),h2⟩
   |false=>
    rw[hb]at h2;have:j≠id:=λhh=>by rw[hh,Nat.beq_refl]at hb;cases hb
    exact⟨.exit j,e',m',by simp only[evC,h1];exact if_neg this,h2⟩
  |_=>exact⟨_,_,_,by simp only[evC,h1],h2⟩
 |.loop live c,e,m,K,h=>by
  simp only[wpC,yag,zyw,ynq]at h;obtain⟨x,e',m',h1,h2⟩:=h.got;exact⟨x,e',m',by simp only[evC,h1],h2⟩
 |.rangeFn slot f ps a b,e,m,K,h=>by
  simp only[wpC,zpc,zd1,zyw,z4s,zcm]at h;simp only[evC]
  split at h
  ·rename_i hl;rw[if_pos hl]
   split at h
   ·rename_i hf;rw[hf];obtain⟨v,m',h1,h2⟩:=h.got;simp only[h1];simp only[yt8,zds,zxz,z4s,zd1]at h2
    split at h2
    ·rename_i hlk;simp only[hlk]
     split at h2
     ·rename_i hl2;simp only[if_pos hl2];split at h2<;>exact⟨_,_,_,rfl,h2⟩
     exact h2.elim
    exact h2.elim
   exact h.elim
  exact h.elim
def yya(m:Mem)(e:Env)(r:RV)(K:V->Prop):Prop:=
 match r with
 |.tmp t=>yqr e t K
 |.cell t n=>yqr e t λa=>yrz n m a K
theorem yo1{m:Mem}{e:Env}{r:RV}{K:V->Prop}(h:yya m e r K):∃v,yx9 m e r=some v/\K v:=by
 cases r with
 |tmp t=>simp only[yya,zud]at h;exact⟨_,rfl,h⟩
 |cell t n=>simp only[yya,zud]at h;exact yiz _ _ _ _ h
def yv2(m:Mem)(e:Env):List RV->(List V->Prop)->Prop
 |[],K=>K []
 |r::q,K=>yya m e r λv=>yv2 m e q λvs=>K (v::vs)
theorem yjm{m:Mem}{e:Env}:∀(l:List RV)(K:List V->Prop),yv2 m e l K->∃vs,z6t m e l=some vs/\K vs
 |[],K,h=>⟨[],rfl,h⟩
 |r::q,K,h=>by
  obtain⟨v,h1,h2⟩:=yo1 h;obtain⟨vs,h3,h4⟩:=yjm q _ h2;exact⟨v::vs,by simp only[z6t,h1,h3],h4⟩
def z2q(m:Mem)(e:Env)(rs:List RV)(K:V->Prop):Prop:=
 match rs with
 |[]=>K (.tup [])
 |[r]=>yya m e r K
 |r::r2::rs=>yv2 m e (r::r2::rs) λvs=>K (.tup vs)
theorem z5d{m:Mem}{e:Env}{rs:List RV}{K:V->Prop}(h:z2q m e rs K):∃v,results m e rs=some v/\K v:=by
 unfold z2q at h
 split at h
 ·exact⟨_,rfl,h⟩
 ·exact yo1 h
 obtain⟨vs,h1,h2⟩:=yjm _ _ h;exact⟨_,by simp only[results,h1];rfl,h2⟩
def yzr(rs:List RV)(K:V->Mem->Prop)(x:Ex)(e:Env)(m:Mem):Prop:=
 match x with
 |.normal=>z2q m e rs λv=>K v m
 |.ret=>z2q m e rs λv=>K v m
 |.exit _=>False
def yzf:Nat->List V->(Env->Prop)->Prop
 |_,[],K=>K []
 |i,v::r,K=>yzf (i+1) r λe=>K ((i,v)::e)
theorem yol:∀(i:Nat)(l:List V)(K:Env->Prop),yzf i l K=K (params i l)
 |_,[],_=>rfl
 |i,v::r,K=>by simp only[yzf,params,yol (i+1) r]
variable{Γ:Nat ->Option CF}{X:Extern}
def ym1(E:Oracle)(lv:Nat)(cf:CF)(args:List V)(m:Mem)(K:V->Mem->Prop):Prop:=yzf 0 args λe=>wpC E ⟨lv,lv+1⟩ cf.body e m (yzr cf.results K)
theorem In.enter(hE:Lim Γ X E){lv f:Nat}{args:List V}{m:Mem}{K:V->Mem->Prop}{cf:CF}(hX:X f=none)(hc:Γ f=some cf)(h:ym1 E lv cf args m K):In E lv f args m K:=by
 simp only[ym1,yol]at h;obtain⟨x,e',m',h1,h2⟩:=wpC_ok _ _ _ _ h;refine⟨?_⟩;rw[hE.fix];simp only[step,hX,hc,h1];cases x with
 |normal=>
  simp only[yzr]at h2;obtain⟨v,h3,h4⟩:=z5d h2;exact⟨v,m',by simp only[h3];rfl,h4⟩
 |ret=>
  simp only[yzr]at h2;obtain⟨v,h3,h4⟩:=z5d h2;exact⟨v,m',by simp only[h3];rfl,h4⟩
 |exit i=>exact h2.elim
theorem Fc.enter(hE:Lim Γ X E){f:Nat}{args:List V}{r:V}{cf:CF}(hX:X f=none)(hc:Γ f=some cf)(h:ym1 E 0 cf args [] λv m'=>yqa m' v λd=>Ret d r):Fc E f args r:=by
 obtain⟨v,m',h1,h2⟩:=(In.enter hE hX hc h).got;obtain⟨d,h3,h4⟩:=yka _ _ _ h2;exact⟨v,m',h1,by rw[h3,h4.eq]⟩
theorem Fc.extern(hE:Lim Γ X E){f:Nat}{args:List V}{r v:V}{m':Mem}{x:List V->Mem->Option (V×Mem)}(hX:X f=some x)(h:x args []=some (v,m'))(ht:thaw m' v=some r):Fc E f args r:=
 ⟨v,m',by rw[hE.fix];simp only[step,hX,h];rfl,ht⟩
theorem In.extern(hE:Lim Γ X E){lv f:Nat}{args:List V}{m:Mem}{K:V->Mem->Prop}{v:V}{m':Mem}{x:List V->Mem->Option (V×Mem)}(hX:X f=some x)(h:x args m=some (v,m'))(hk:K v m'):In E lv f args m K:=
 ⟨v,m',by rw[hE.fix];simp only[step,hX,h];rfl,hk⟩
theorem zaf.of{f:Nat}{args:List V}{r:V}{K:V->Prop}(h:Fc E f args r)(hk:K r):zaf E f args K:=⟨r,h,hk⟩
def z61(E:Oracle)(cx:Cx)(live:List Nat)(keep:List Id)(body:C)(K:Ex->Env->Mem->Prop)(x:Ex)(e:Env)(m:Mem):Prop:=
 match x with
 |.normal=>yoh e live λe2=>gcK keep e2 m λm2=>zab E cx live keep body e2 m2 K
 |.exit i=>K (.exit i) e m
 |.ret=>K .ret e m
theorem zab.step(hE:Lim Γ X E){cx:Cx}{live:List Nat}{keep:List Id}{body:C}{e:Env}{m:Mem}{K:Ex->Env->Mem->Prop}(h:wpC E cx body e m (z61 E cx live keep body K)):zab E cx live keep body e m K:=by
 obtain⟨x,e',m',h1,h2⟩:=wpC_ok _ _ _ _ h;refine⟨?_⟩;rw[hE.fix];simp only[Go.Evl.step,h1];cases x with
 |normal=>
  simp only[z61,yag,ynq]at h2;exact h2.got
 |exit i=>exact⟨_,_,_,rfl,h2⟩
 |ret=>exact⟨_,_,_,rfl,h2⟩
theorem zab.mono{cx:Cx}{live:List Nat}{keep:List Id}{body:C}{e:Env}{m:Mem}{K K':Ex->Env->Mem->Prop}(h:zab E cx live keep body e m K)(hk:∀x e m,K x e m->K' x e m):zab E cx live keep body e m K':=by
 obtain⟨x,e',m',h1,h2⟩:=h.got;exact⟨x,e',m',h1,hk _ _ _ h2⟩
def yzi:List Nat->List V->Env->(Env->Prop)->Prop
 |t::r,v::s,e,K=>yw7 e t v λe'=>yzi r s e' K
 |[],_,e,K=>K e
 |_::_,[],e,K=>K e
theorem yqh:∀(ps:List Nat)(vs:List V)(e:Env)(K:Env->Prop),yzi ps vs e K=K (ywu ps vs e)
 |[],[],e,K=>rfl
 |[],_::_,e,K=>rfl
 |_::_,[],e,K=>rfl
 |t::r,v::s,e,K=>by simp only[yzi,ywu,yaj,yqh r s]
def yjo(o:Id)(ks:List Id)(K:V->Mem->Prop)(x:Ex)(_:Env)(m2:Mem):Prop:=znf m2 o λob=>
 match ob with
 |some (.loop e' ps' a' b' lv' true false _)=>
  (match x with
  |.normal=>ztm m2 o (.loop e' ps' a' b' lv' false false none) λm3=>gcK ks [] m3 λm4=>K (.d (.bool true)) m4
  |.exit id=>ztm m2 o (.loop e' ps' a' b' lv' false true (some (.exit id))) λm3=>K (.d (.bool false)) m3
  |.ret=>ztm m2 o (.loop e' ps' a' b' lv' false true (some .ret)) λm3=>K (.d (.bool false)) m3)
 |_=>False
def yjp(E:Oracle)(nx:Nat)(o:Id)(lv:Nat)(b:C)(ks:List Id)(K:V->Mem->Prop)(x:Ex)(e1:Env)(m1:Mem):Prop:=
 match x with
 |.normal=>znf m1 o λob=>
  (match ob with
  |some (.loop e' ps' a' b' lv' false false j')=>ztm m1 o (.loop e' ps' a' b' lv' true false j') λm2=>wpC E ⟨lv,nx⟩ b e1 m2 (yjo o ks K)
  |_=>False)
 |_=>False
def yt9(E:Oracle)(nx:Nat)(o:Id)(args:List V)(m:Mem)(K:V->Mem->Prop):Prop:=znf m o λob=>
 match ob with
 |some (.loop e ps a b lv false false _)=>
  (match Nat.beq ps.length args.length with
  |true=>yzi ps args e λe0=>yft m λks=>wpC E ⟨lv,nx⟩ a e0 m (yjp E nx o lv b ks K)
  |false=>False)
 |_=>False
theorem Rnd.enter(hE:Lim Γ X E){nx:Nat}{o:Id}{args:List V}{m:Mem}{K:V->Mem->Prop}(h:yt9 E nx o args m K):Rnd E nx o args m K:=by
 refine⟨?_⟩;rw[hE.fix];simp only[yt9,zds]at h;simp only[Go.Evl.step]
 split at h
 ·rename_i hl;simp only[hl]
  split at h
  ·rename_i hlen;rw[if_pos (Nat.eq_of_beq_eq_true hlen)];simp only[yqh,zyw]at h;obtain⟨x,e1,m1,h1,h2⟩:=wpC_ok _ _ _ _ h;simp only[h1];cases x with
   |normal=>
    simp only[yjp,zds]at h2
    split at h2
    ·rename_i hl1;simp only[hl1];rw[zd1]at h2;obtain⟨x,e2,m2,h3,h4⟩:=wpC_ok _ _ _ _ h2;simp only[h3];simp only[yjo,zds]at h4
     split at h4
     ·rename_i hl2;simp only[hl2];cases x with
      |normal=>
       simp only[zd1,ynq]at h4;exact⟨_,_,rfl,h4⟩
      |exit i=>
       simp only[zd1]at h4;exact⟨_,_,rfl,h4⟩
      |ret=>
       simp only[zd1]at h4;exact⟨_,_,rfl,h4⟩
     exact h4.elim
    exact h2.elim
   |exit i=>exact h2.elim
   |ret=>exact h2.elim
  exact h.elim
 exact h.elim
end
end Go.Evl
