
/-
 The evaluator's limit, and what is to be shown for code to end well.
-/
import Derived.Test.YtnabmkmhbncidabGreatDoorEvSyn
namespace Go.Evl
def Le (F G:Oracle):Prop:=∀q r,F q=some r->G q=some r
structure z99 (It:Nat->Oracle) (E:Oracle):Prop where
 up:∀n,Le (It n) (It (n+1))
 lim:∀q r,E q=some r↔∃n,It n q=some r
theorem z99.le {It:Nat->Oracle} {E:Oracle} (h:z99 It E) {n m:Nat} (hnm:n<=m):Le (It n) (It m):=by
 induction hnm with
 | refl=>exact fun _ _ h=>h
 | step _ ih=>exact fun q r hq=>h.up _ q r (ih q r hq)
structure zcf {α:Type} (It:Nat->Oracle) (E:Oracle) (f:Oracle->Option α):Prop where
 mono:∀F G,Le F G->∀r,f F=some r->f G=some r
 reach:∀r,f E=some r->∃n,f (It n)=some r
section
variable {It : Nat -> Oracle} {E : Oracle} {α β : Type}
theorem zcf.const {f:Oracle->Option α} (h:∀F G,f F=f G):zcf It E f:=
 ⟨fun F G _ _ hr=>(h G F).trans hr,fun _ hr=>⟨0,(h _ E).trans hr⟩⟩
theorem zcf.query (hc:z99 It E) (q:Req):zcf It E (fun F=>F q):=
 ⟨fun _ _ h r hr=>h q r hr,fun r hr=>(hc.lim q r).1 hr⟩
theorem zcf.bind (hc:z99 It E) {f:Oracle->Option α} {k:α->Oracle->Option β} (hf:zcf It E f) (hk:∀a,zcf It E (k a)):zcf It E (fun F=>(f F).bind fun a=>k a F):=by
 refine⟨fun F G h r hr=> ?_,fun r hr=> ?_⟩
 ·obtain⟨a,h1,h2⟩:=Option.bind_eq_some_iff.1 hr
  exact Option.bind_eq_some_iff.2 ⟨a,hf.mono F G h a h1,(hk a).mono F G h r h2⟩
 ·obtain⟨a,h1,h2⟩:=Option.bind_eq_some_iff.1 hr
  obtain⟨n,hn⟩:=hf.reach a h1
  obtain⟨k',hk'⟩:=(hk a).reach r h2
  refine⟨max n k',Option.bind_eq_some_iff.2 ⟨a,hf.mono _ _ (hc.le (Nat.le_max_left _ _)) a hn,(hk a).mono _ _ (hc.le (Nat.le_max_right _ _)) r hk'⟩⟩
theorem zcf.of_eq {f g:Oracle->Option α} (h:∀F,f F=g F) (hg:zcf It E g):zcf It E f:=by
 have:f=g:=funext h
 rw [this];exact hg
theorem znw {p:Prop} [Decidable p] {f g:Oracle->Option α} (hf:zcf It E f) (hg:zcf It E g):zcf It E (fun F=>if p then f F else g F):=by
 by_cases h:p
 ·exact zcf.of_eq (fun F=>if_pos h) hf
 ·exact zcf.of_eq (fun F=>if_neg h) hg
variable (hc : z99 It E)
include hc
theorem z3h (cx:Cx) (f:V) (args:List V) (m:Mem):zcf It E (fun F=>zi9 F cx f args m):=by
 cases f with
 | fn f first caps=>
  refine zcf.of_eq (g:=fun F=>(F (.call cx.nx f (first ++args++caps) m)).bind fun r=>match r with| .val v m'=>some (v,m')|_=>none) (fun F=> ?_) (zcf.bind hc (zcf.query hc _) fun r=>zcf.const fun _ _=>rfl)
  simp only [zi9]
  cases F (.call cx.nx f (first ++args++caps) m) with
  | none=>rfl
  | some r=>cases r<;>rfl
 | yld o=>
  refine zcf.of_eq (g:=fun F=>(F (.round cx.nx o args m)).bind fun r=>match r with| .val v m'=>some (v,m')|_=>none) (fun F=> ?_) (zcf.bind hc (zcf.query hc _) fun r=>zcf.const fun _ _=>rfl)
  simp only [zi9]
  cases F (.round cx.nx o args m) with
  | none=>rfl
  | some r=>cases r<;>rfl
 | _=>exact zcf.const fun _ _=>rfl
theorem zn6 (cx:Cx) (slot:Nat) (shared imm:Bool) (f:V) (args:List V) (m:Mem):zcf It E (fun F=>zlw F cx slot shared imm f args m):=by
 unfold zlw
 refine znw (znw ?_ (zcf.const fun _ _=>rfl)) ?_
 ·refine zcf.of_eq (g:=fun F=>(zi9 F cx f args m).bind fun p=>if zjv cx.nx (idsAll (zew cx.nx p.2)) then zpu cx slot cx.nx imm (zew cx.nx p.2) p.2 p.1 else none) (fun F=> ?_) (zcf.bind hc (z3h hc cx f args m) fun r=>zcf.const fun _ _=>rfl)
  cases zi9 F cx f args m<;>rfl
 ·cases f with
  | fn f first caps=>
   dsimp only
   generalize zey false m (first ++args++caps)=o
   cases o with
   | none=>exact zcf.const fun _ _=>rfl
   | some ds=>
    refine zcf.of_eq (g:=fun F=>(F (.call 0 f (asV ds) [])).bind fun r=>match r with| .val v m'=>zpu cx slot 0 imm m m' v|_=>none) (fun F=> ?_) (zcf.bind hc (zcf.query hc _) fun r=>zcf.const fun _ _=>rfl)
    simp only
    cases F (.call 0 f (asV ds) []) with
    | none=>rfl
    | some r=>cases r<;>rfl
  | _=>exact zcf.const fun _ _=>rfl
theorem ydo (f:V) (args:List V) (m:Mem):zcf It E (fun F=>zx6 F f args m):=by
 cases f with
 | fn f first caps=>
  simp only [zx6]
  refine znw ?_ (zcf.const fun _ _=>rfl)
  refine zcf.of_eq (g:=fun F=>(F (.call 1 f (renL (number ⟨0,0⟩ 0 0 (reach 0 m 64 (idsL (first ++args++caps)) [])) (first ++args++caps)) (moved (number ⟨0,0⟩ 0 0 (reach 0 m 64 (idsL (first ++args++caps)) [])) m (number ⟨0,0⟩ 0 0 (reach 0 m 64 (idsL (first ++args++caps)) []))))).bind fun r=>match r with
   | .val v m1=>if ybk m1 (moved (number ⟨0,0⟩ 0 0 (reach 0 m 64 (idsL (first ++args++caps)) [])) m (number ⟨0,0⟩ 0 0 (reach 0 m 64 (idsL (first ++args++caps)) [])))&&(ids v).all (fun i=>((number ⟨0,0⟩ 0 0 (reach 0 m 64 (idsL (first ++args++caps)) [])).map (·.2)).elem i) then some (ren (zpj (number ⟨0,0⟩ 0 0 (reach 0 m 64 (idsL (first ++args++caps)) []))) v) else none
   | _=>none) (fun F=> ?_) (zcf.bind hc (zcf.query hc _) fun r=>zcf.const fun _ _=>rfl)
  generalize number ⟨0,0⟩ 0 0 (reach 0 m 64 (idsL (first ++args++caps)) [])=σ
  cases F (.call 1 f (renL σ (first ++args++caps)) (moved σ m σ)) with
  | none=>rfl
  | some r=>cases r<;>rfl
 | _=>exact zcf.const fun _ _=>rfl
theorem z3i (imm:Bool) (f:V) (args:List V) (m:Mem):zcf It E (fun F=>zv0 F imm f args m):=by
 cases f with
 | fn f first caps=>
  simp only [zv0]
  refine znw ?_ (zcf.const fun _ _=>rfl)
  refine zcf.of_eq (g:=fun F=>(F (.call 1 f (renL (number ⟨0,0⟩ 0 0 (reach 0 m 64 (idsL ((first ++args++caps).map (zy6 m))) [])) ((first ++args++caps).map (zy6 m))) (moved (number ⟨0,0⟩ 0 0 (reach 0 m 64 (idsL ((first ++args++caps).map (zy6 m))) [])) m (number ⟨0,0⟩ 0 0 (reach 0 m 64 (idsL ((first ++args++caps).map (zy6 m))) []))))).bind fun r=>match r with
   | .val v m1=>
    if imm then
     if zjv 1 (zps (moved (number ⟨0,0⟩ 0 0 (reach 0 m 64 (idsL ((first ++args++caps).map (zy6 m))) [])) m (number ⟨0,0⟩ 0 0 (reach 0 m 64 (idsL ((first ++args++caps).map (zy6 m))) []))))&&zjv 1 (idsAll (zew 1 m1)) then
      match zpu ⟨0,1⟩ 0 1 true (zew 1 m1) m1 v with
      | some (v',m2)=>if(ids v').all (fun i=>((number ⟨0,0⟩ 0 0 (reach 0 m 64 (idsL ((first ++args++caps).map (zy6 m))) [])).map (·.2)).elem i) then(zwi (number ⟨0,0⟩ 0 0 (reach 0 m 64 (idsL ((first ++args++caps).map (zy6 m))) [])) m2 (number ⟨0,0⟩ 0 0 (reach 0 m 64 (idsL ((first ++args++caps).map (zy6 m))) [])) m).map fun m'=>(ren (zpj (number ⟨0,0⟩ 0 0 (reach 0 m 64 (idsL ((first ++args++caps).map (zy6 m))) []))) v',m') else none
      | none=>none
     else none
    else if(ids v).all (fun i=>((number ⟨0,0⟩ 0 0 (reach 0 m 64 (idsL ((first ++args++caps).map (zy6 m))) [])).map (·.2)).elem i) then(zwi (number ⟨0,0⟩ 0 0 (reach 0 m 64 (idsL ((first ++args++caps).map (zy6 m))) [])) m1 (number ⟨0,0⟩ 0 0 (reach 0 m 64 (idsL ((first ++args++caps).map (zy6 m))) [])) m).map fun m'=>(ren (zpj (number ⟨0,0⟩ 0 0 (reach 0 m 64 (idsL ((first ++args++caps).map (zy6 m))) []))) v,m') else none
   | _=>none) (fun F=> ?_) (zcf.bind hc (zcf.query hc _) fun r=>zcf.const fun _ _=>rfl)
  generalize number ⟨0,0⟩ 0 0 (reach 0 m 64 (idsL ((first ++args++caps).map (zy6 m))) [])=σ
  cases F (.call 1 f (renL σ ((first ++args++caps).map (zy6 m))) (moved σ m σ)) with
  | none=>rfl
  | some r=>cases r<;>rfl
 | _=>exact zcf.const fun _ _=>rfl
theorem z3g {γ:Type} {run:Oracle->γ->Option α} (h:∀a,zcf It E (fun F=>run F a)):∀l:List γ,zcf It E (fun F=>yjq (run F) l)
 | []=>zcf.const fun _ _=>rfl
 | a::r=>zcf.bind hc (h a) fun _=>zcf.bind hc (z3g h r) fun _=>zcf.const fun _ _=>rfl
theorem yax {run:Oracle->Mem->Option (V×Mem)} (h:∀m,zcf It E (fun F=>run F m)) (m:Mem) (v:V):zcf It E (fun F=>zq0 (run F) m v):=by
 unfold zq0
 split
 ·split
  ·exact znw (zcf.bind hc (h _) fun _=>zcf.bind hc (z3g hc (fun _=>h _) _) fun _=>zcf.const fun _ _=>rfl) (zcf.const fun _ _=>rfl)
  ·exact h m
 ·exact h m
theorem zt9 {body:Oracle->Env->Mem->Option (Ex×Env×Mem)} (h:∀e m,zcf It E (fun F=>body F e m)) (it:Nat) (i:Id) (out nxt pair:Nat) (live:List Nat) (keep:List Id):
  ∀(l:List (D×V)) (e:Env) (m:Mem),zcf It E (fun F=>zjp (body F) it i out nxt pair live keep l e m)
 | [],_,_=>zcf.const fun _ _=>rfl
 | (k,v)::r,e,m=>by
  refine zcf.bind hc (h _ _) fun p=> ?_
  unfold zlj
  split
  ·exact znw (zt9 h it i out nxt pair live keep r _ _) (zcf.const fun _ _=>rfl)
  ·exact zcf.const fun _ _=>rfl
theorem yaz {body:Oracle->Env->Mem->Option (Ex×Env×Mem)} (h:∀e m,zcf It E (fun F=>body F e m)) (cx:Cx) (it:Nat) (x:Opd) (out nxt pair:Nat) (live:List Nat) (e:Env) (m:Mem):
  zcf It E (fun F=>zsx (body F) cx it x out nxt pair live e m):=by
 unfold zsx
 split
 ·split
  ·exact zcf.bind hc (zcf.bind hc (zt9 hc h _ _ _ _ _ _ _ _ _ _) fun _=>zcf.bind hc (z3g hc (fun _=>zt9 hc h _ _ _ _ _ _ _ _ _ _) _) fun _=>zcf.const fun _ _=>rfl) fun _=>zcf.const fun _ _=>rfl
  ·exact zcf.const fun _ _=>rfl
 ·exact zcf.const fun _ _=>rfl
theorem yay (cx:Cx) (slot:Nat) (e:Env) (m:Mem) (op:COp):zcf It E (fun F=>zcu F cx slot e m op):=by
 cases op with
 | call s i f args=>exact zn6 hc cx slot s i _ _ m
 | callD f args=>
  simp only [zcu]
  split
  ·split
   ·exact zn6 hc cx slot false true _ _ m
   ·exact zcf.const fun _ _=>rfl
  ·exact zcf.const fun _ _=>rfl
 | callK i f args=>
  refine zcf.of_eq (g:=fun F=>(zlw F cx slot true i (zts (f.ev e)) (evs e args) m).bind fun p=>if leM m p.2 m=true then some (p.1,m) else none) (fun F=> ?_) (zcf.bind hc (zn6 hc cx slot true i _ _ m) fun p=>zcf.const fun _ _=>rfl)
  simp only [zcu]
  cases zlw F cx slot true i (zts (f.ev e)) (evs e args) m<;>rfl
 | callQ f args=>
  refine zcf.of_eq (g:=fun F=>(zx6 F (zts (f.ev e)) (evs e args) m).bind fun v=>some (v,m)) (fun F=> ?_) (zcf.bind hc (ydo hc _ _ m) fun p=>zcf.const fun _ _=>rfl)
  simp only [zcu]
  cases zx6 F (zts (f.ev e)) (evs e args) m<;>rfl
 | callU b f args=>exact z3i hc b _ _ m
 | callN f args=>
  simp only [zcu]
  split
  ·split
   ·exact zn6 hc cx slot false false _ _ m
   ·exact zcf.const fun _ _=>rfl
  ·exact zcf.const fun _ _=>rfl
 | callB i f args b=>exact yax hc (fun m=>zn6 hc cx slot true i _ _ m) m _
 | callR i f args rs=>
  refine zcf.of_eq (g:=fun F=>(zlw F cx slot true i (zts (f.ev e)) (evs e args) m).bind fun p=>if z86 m p.2 (rs.map (get e))=true then some p else none) (fun F=> ?_) (zcf.bind hc (zn6 hc cx slot true i _ _ m) fun p=>zcf.const fun _ _=>rfl)
  simp only [zcu]
  cases zlw F cx slot true i (zts (f.ev e)) (evs e args) m<;>rfl
 | _=>exact zcf.const fun _ _=>rfl
theorem yij (cx:Cx) (e:Env) (m:Mem) (o:CO):zcf It E (fun F=>zet F cx e m o):=by
 obtain⟨dst,guard,op⟩:=o
 cases guard with
 | none=>exact yay hc cx _ e m op
 | some g=>
  obtain⟨t,want⟩:=g
  simp only [zet]
  split
  ·split
   ·exact yay hc cx _ e m op
   ·exact zcf.const fun _ _=>rfl
  ·exact zcf.const fun _ _=>rfl
  ·exact zcf.const fun _ _=>rfl
theorem zrg (cx:Cx):∀(os:List CO) (e:Env) (m:Mem),zcf It E (fun F=>zjo F cx os e m)
 | [],e,m=>zcf.const fun _ _=>rfl
 | o::r,e,m=>by
  refine zcf.of_eq (g:=fun F=>(zet F cx e m o).bind fun p=>zjo F cx r (put? e o.dst p.1) p.2) (fun F=> ?_) (zcf.bind hc (yij hc cx e m o) fun p=>zrg cx r _ _)
  simp only [zjo]
  cases zet F cx e m o<;>rfl
def ytv:Res->Option (Ex×Env×Mem)
 | .st x e' m'=>some (x,e',m')
 | _=>none
def ypd (cx:Cx) (i:Id) (e:Env):Res->Option (Ex×Env×Mem)
 | .val _ m'=>
  match look m' i with
  | some (.loop _ _ _ _ _ false _ j)=>
   if zjv cx.nx (idsAll (zew cx.nx m')) then
    let m2:=upd (zew cx.nx m') i .gone
    match j with
    | none=>some (.normal,e,m2)
    | some j=>some (j.ex,e,m2)
   else none
  | _=>none
 | _=>none
theorem zk4 (cx:Cx):∀(c:C) (e:Env) (m:Mem),zcf It E (fun F=>evC F cx c e m)
 | .skip,e,m=>zcf.const fun _ _=>rfl
 | .label,e,m=>zcf.const fun _ _=>rfl
 | .exit _,e,m=>zcf.const fun _ _=>rfl
 | .ret,e,m=>zcf.const fun _ _=>rfl
 | .bad,e,m=>zcf.const fun _ _=>rfl
 | .scope c,e,m=>by simp only [evC];exact zk4 cx c e m
 | .reg _ ops kill,e,m=>by
  refine zcf.of_eq (g:=fun F=>(zjo F cx ops e m).bind fun p=>some (.normal,zd0 kill p.1,p.2)) (fun F=> ?_) (zcf.bind hc (zrg hc cx ops e m) fun p=>zcf.const fun _ _=>rfl)
  simp only [evC]
  cases zjo F cx ops e m<;>rfl
 | .regC ops kill chk,e,m=>zcf.bind hc (zrg hc cx ops e m) fun p=>zcf.const fun _ _=>rfl
 | .seq a b,e,m=>by
  refine zcf.of_eq (g:=fun F=>(evC F cx a e m).bind fun p=>match p with|(.normal,e',m')=>evC F cx b e' m'|p=>some p) (fun F=> ?_) (zcf.bind hc (zk4 cx a e m) fun p=> ?_)
  ·simp only [evC]
   cases evC F cx a e m with
   | none=>rfl
   | some p=>obtain⟨x,e',m'⟩:=p;cases x<;>rfl
  ·obtain⟨x,e',m'⟩:=p
   cases x with
   | normal=>exact zk4 cx b e' m'
   | _=>exact zcf.const fun _ _=>rfl
 | .cond c a b,e,m=>by
  simp only [evC]
  split
  ·exact znw (zk4 cx a e m) (zk4 cx b e m)
  ·exact zcf.const fun _ _=>rfl
 | .block id c,e,m=>by
  refine zcf.of_eq (g:=fun F=>(evC F cx c e m).bind fun p=>match p with|(.exit j,e',m')=>if j=id then some (.normal,e',m') else some (.exit j,e',m')|p=>some p) (fun F=> ?_) (zcf.bind hc (zk4 cx c e m) fun p=>zcf.const fun _ _=>rfl)
  simp only [evC]
  cases evC F cx c e m with
  | none=>rfl
  | some p=>obtain⟨x,e',m'⟩:=p;cases x<;>rfl
 | .loop live c,e,m=>by
  refine zcf.of_eq (g:=fun F=>(F (.loop cx live (zps m) c (only live e) (gc (zps m) (only live e) m))).bind ytv) (fun F=> ?_) (zcf.bind hc (zcf.query hc _) fun p=>zcf.const fun _ _=>rfl)
  simp only [evC]
  cases F (.loop cx live (zps m) c (only live e) (gc (zps m) (only live e) m)) with
  | none=>rfl
  | some r=>cases r<;>rfl
 | .rangeM pre it x out nxt pair live ops kill code,e,m=>by
  simp only [evC]
  exact zcf.bind hc (zrg hc cx pre e m) fun p=>yaz hc (fun e m=>zcf.bind hc (zrg hc cx ops e m) fun q=>zk4 cx code _ _) _ _ _ _ _ _ _ _ _
 | .rangeFn slot f ps a b,e,m=>by
  simp only [evC]
  refine znw ?_ (zcf.const fun _ _=>rfl)
  cases f.ev e with
  | fn g first caps=>
   refine zcf.of_eq (g:=fun F=>(F (.call cx.nx g (first ++[.yld (newId cx slot m)]++caps) (upd m (newId cx slot m) (.loop e ps a b cx.lv false false none)))).bind (ypd cx (newId cx slot m) e)) (fun F=> ?_) (zcf.bind hc (zcf.query hc _) fun p=>zcf.const fun _ _=>rfl)
   simp only
   cases F (.call cx.nx g (first ++[.yld (newId cx slot m)]++caps) (upd m (newId cx slot m) (.loop e ps a b cx.lv false false none))) with
   | none=>rfl
   | some r=>cases r<;>rfl
  | _=>exact zcf.const fun _ _=>rfl
theorem ya0 (Γ:Nat->Option CF) (X:Extern) (q:Req):zcf It E (fun F=>step Γ X F q):=by
 cases q with
 | call lv f args m=>
  simp only [step]
  cases X f with
  | some x=>exact zcf.const fun _ _=>rfl
  | none=>
   cases Γ f with
   | none=>exact zcf.const fun _ _=>rfl
   | some cf=>
    refine zcf.of_eq (g:=fun F=>(evC F ⟨lv,lv+1⟩ cf.body (params 0 args) m).bind fun p=>match p with|(.normal,e,m')=>(results m' e cf.results).map fun v=> .val v m'|(.ret,e,m')=>(results m' e cf.results).map fun v=> .val v m'|_=>none) (fun F=> ?_) (zcf.bind hc (zk4 hc _ _ _ _) fun p=>zcf.const fun _ _=>rfl)
    simp only
    cases evC F ⟨lv,lv+1⟩ cf.body (params 0 args) m with
    | none=>rfl
    | some p=>obtain⟨x,e',m'⟩:=p;cases x<;>rfl
 | round nx o args m=>
  simp only [step]
  split
  ·rename_i e ps a b lv j hl
   refine znw ?_ (zcf.const fun _ _=>rfl)
   refine zcf.of_eq (g:=fun F=>(evC F ⟨lv,nx⟩ a (ysw ps args e) m).bind fun p=>match p with
    | (.normal,e1,m1)=>(match look m1 o with
     | some (.loop e' ps' a' b' lv' false false j')=>(evC F ⟨lv,nx⟩ b e1 (upd m1 o (.loop e' ps' a' b' lv' true false j'))).bind fun p=>match p with
      | (x,_,m2)=>match look m2 o with
       | some (.loop e' ps' a' b' lv' true false _)=>(match x with
        | .normal=>some (.val (.d (.bool true)) (gc (zps m) [] (upd m2 o (.loop e' ps' a' b' lv' false false none))))
        | .exit id=>some (.val (.d (.bool false)) (upd m2 o (.loop e' ps' a' b' lv' false true (some (.exit id)))))
        | .ret=>some (.val (.d (.bool false)) (upd m2 o (.loop e' ps' a' b' lv' false true (some .ret)))))
       | _=>none
     | _=>none)
    | _=>none) (fun F=> ?_) (zcf.bind hc (zk4 hc _ _ _ _) fun p=> ?_)
   ·simp only
    cases evC F ⟨lv,nx⟩ a (ysw ps args e) m with
    | none=>rfl
    | some p=>
     obtain⟨x,e',m'⟩:=p
     cases x with
     | normal=>
      simp only [Option.bind]
      split
      ·rename_i e2 ps2 a2 b2 lv2 j2 hlk
       simp only [hlk]
       cases evC F ⟨lv,nx⟩ b e' (upd m' o (.loop e2 ps2 a2 b2 lv2 true false j2)) with
       | none=>rfl
       | some p=>rfl
      ·rename_i hno
       split
       ·rename_i hlk
        exact absurd hlk (hno _ _ _ _ _ _)
       ·rfl
     | exit id=>rfl
     | ret=>rfl
   ·obtain⟨x,e1,m1⟩:=p
    cases x with
    | normal=>
     simp only
     split
     ·exact zcf.bind hc (zk4 hc _ _ _ _) fun p=>zcf.const fun _ _=>rfl
     ·exact zcf.const fun _ _=>rfl
    | _=>exact zcf.const fun _ _=>rfl
  ·exact zcf.const fun _ _=>rfl
 | loop cx live keep body e m=>
  simp only [step]
  refine zcf.of_eq (g:=fun F=>(evC F cx body e m).bind fun p=>match p with|(.normal,e',m')=>F (.loop cx live keep body (only live e') (gc keep (only live e') m'))|(x,e',m')=>some (.st x e' m')) (fun F=> ?_) (zcf.bind hc (zk4 hc _ _ _ _) fun p=> ?_)
  ·cases evC F cx body e m with
   | none=>rfl
   | some p=>obtain⟨x,e',m'⟩:=p;cases x<;>rfl
  ·obtain⟨x,e',m'⟩:=p
   cases x with
   | normal=>exact zcf.query hc _
   | _=>exact zcf.const fun _ _=>rfl
end
structure Lim (Γ:Nat->Option CF) (X:Extern) (E:Oracle):Prop where
 fix:∀q,E q=step Γ X E q
 reach:∀q r,E q=some r->∃n,iter Γ X n q=some r
theorem z4u {Γ:Nat->Option CF} {X:Extern} {F G:Oracle} (h:Le F G):Le (step Γ X F) (step Γ X G):=by
 have hc:z99 (fun _=>G) G:=⟨fun _ _ _ h=>h,fun _ _=>⟨fun h=>⟨0,h⟩,fun h=>h.elim fun _ h=>h⟩⟩
 exact fun q r hr=>(ya0 hc Γ X q).mono F G h r hr
theorem yd5 (Γ:Nat->Option CF) (X:Extern):∀n,Le (iter Γ X n) (iter Γ X (n+1))
 | 0=>fun _ _ h=>by simp [iter] at h
 | n+1=>z4u (yd5 Γ X n)
theorem exists_lim (Γ:Nat->Option CF) (X:Extern):∃E,Lim Γ X E:=by
 have hd:∀q:Req,∃a:Option Res,∀r,a=some r↔∃n,iter Γ X n q=some r:=by
  intro q
  by_cases h:∃r,∃n,iter Γ X n q=some r
  ·obtain⟨r,n,hn⟩:=h
   refine⟨some r,fun r'=>⟨fun h=>⟨n,by rw [hn,h]⟩,fun⟨k,hk⟩=> ?_⟩⟩
   have up:∀a b,a<=b->Le (iter Γ X a) (iter Γ X b):=by
    intro a b hab
    induction hab with
    | refl=>exact fun _ _ h=>h
    | step _ ih=>exact fun q r hq=>yd5 Γ X _ q r (ih q r hq)
   rw [<-up n (max n k) (Nat.le_max_left _ _) q r hn,up k (max n k) (Nat.le_max_right _ _) q r' hk]
  ·exact⟨none,fun r=>⟨fun h=>(nomatch h),fun hn=>absurd ⟨r,hn⟩ h⟩⟩
 have ⟨E,hE⟩:=Classical.axiomOfChoice hd
 have hc:z99 (iter Γ X) E:=⟨yd5 Γ X,hE⟩
 refine⟨E,⟨fun q=> ?_,fun q r h=>(hE q r).1 h⟩⟩
 apply Option.ext
 intro r
 constructor
 ·intro h
  obtain⟨n,hn⟩:=(hE q r).1 h
  cases n with
  | zero=>simp [iter] at hn
  | succ n=>exact z4u (fun q r h=>(hE q r).2 ⟨n,h⟩) q r hn
 ·intro h
  obtain⟨n,hn⟩:=(ya0 hc Γ X q).reach r h
  exact(hE q r).2 ⟨n+1,hn⟩
theorem Lim.of_iter {Γ:Nat->Option CF} {X:Extern} {E:Oracle} (h:Lim Γ X E):∀(n:Nat) (q:Req) (r:Res),iter Γ X n q=some r->E q=some r
 | 0,_,_,hn=>by simp [iter] at hn
 | n+1,q,r,hn=>by
  rw [h.fix]
  exact z4u (fun q r=>h.of_iter n q r) q r hn
end Go.Evl
namespace Go.Evl
structure zcp (p k:Prop):Prop where
 need:p
 go:k
structure Br (t:Bool) (a b:Prop):Prop where
 yes:t=true->a
 no:t=false->b
structure Cmp (p a b:Prop):Prop where
 yes:p->a
 no:¬p->b
structure Wr (k:IntKind) (x:Int) (K:Int->Prop):Prop where
 go:K (k.wrap x)
structure Rem (a b:Int) (K:Int->Prop):Prop where
 ne:b≠0
 go:K (a.tmod b)
structure Quo (k:IntKind) (a b:Int) (K:Int->Prop):Prop where
 ne:b≠0
 go:K (k.wrap (a.tdiv b))
structure zgw (cs:List D) (off:Nat) (K:D->Prop):Prop where
 got:∃d,cs[off]? =some d/\K d
structure yia (cs:List V) (off:Nat) (K:V->Prop):Prop where
 got:∃d,cs[off]? =some d/\K d
structure z7x (cs:List D) (off n:Nat) (K:List D->Prop):Prop where
 le:off+n<=cs.length
 go:K (win cs off n)
structure zva (s:List UInt8) (i:Nat) (K:UInt8->Prop):Prop where
 got:∃b,s[i]? =some b/\K b
structure ztt {α:Type} (o:Option α) (K:α->Prop):Prop where
 got:∃a,o=some a/\K a
def Fc (E:Oracle) (f:Nat) (args:List V) (r:V):Prop:=∃v m',E (.call 0 f args [])=some (.val v m')/\yfm m' v=some r
structure zai (E:Oracle) (f:Nat) (args:List V) (K:V->Prop):Prop where
 got:∃r,Fc E f args r/\K r
structure zcb (E:Oracle) (f:Nat) (args:List V) (cx:Cx) (slot:Nat) (m:Mem) (K:V->Mem->Prop):Prop where
 got:∃v m' p,E (.call 0 f args [])=some (.val v m')/\settle cx slot 0 m m' v=some p/\K p.1 p.2
structure In (E:Oracle) (lv f:Nat) (args:List V) (m:Mem) (K:V->Mem->Prop):Prop where
 got:∃v m',E (.call lv f args m)=some (.val v m')/\K v m'
structure Rnd (E:Oracle) (nx:Nat) (o:Id) (args:List V) (m:Mem) (K:V->Mem->Prop):Prop where
 got:∃v m',E (.round nx o args m)=some (.val v m')/\K v m'
structure zak (E:Oracle) (cx:Cx) (live:List Nat) (keep:List Id) (body:C) (e:Env) (m:Mem) (K:Ex->Env->Mem->Prop):Prop where
 got:∃x e' m',E (.loop cx live keep body e m)=some (.st x e' m')/\K x e' m'
structure Chk (b:Bool) (k:Prop):Prop where
 need:b=true
 go:k
structure Ret (a b:V):Prop where
 eq:a=b
def yoj:Env->Nat->(V->Prop)->Prop
 | [],_,K=>K .undef
 | (u,v)::r,t,K=>match Nat.beq u t with
  | true=>K v
  | false=>yoj r t K
theorem zw4:∀(e:Env) (t:Nat) (K:V->Prop),yoj e t K=K (get e t)
 | [],_,_=>rfl
 | (u,v)::r,t,K=>by
  simp only [yoj,get]
  cases h:Nat.beq u t with
  | true=>simp [Nat.eq_of_beq_eq_true h]
  | false=>
   have:u≠t:=fun hh=>by rw [hh,Nat.beq_refl] at h;cases h
   simp only [if_neg this]
   exact zw4 r t K
def opK (e:Env) (x:Opd) (K:V->Prop):Prop:=
 match x with
 | .t n=>yoj e n K
 | .k v=>K v
theorem zce (e:Env) (x:Opd) (K:V->Prop):opK e x K=K (x.ev e):=by
 cases x with
 | t n=>exact zw4 e n K
 | k v=>rfl
def yc9 (e:Env):List Opd->(List V->Prop)->Prop
 | [],K=>K []
 | x::r,K=>opK e x fun v=>yc9 e r fun vs=>K (v::vs)
theorem zl4 (e:Env):∀(l:List Opd) (K:List V->Prop),yc9 e l K=K (evs e l)
 | [],_=>rfl
 | x::r,K=>by simp only [yc9,evs,zce,zl4 e r]
def yil (e:Env):List Nat->(List V->Prop)->Prop
 | [],K=>K []
 | t::r,K=>yoj e t fun v=>yil e r fun vs=>K (v::vs)
theorem z15 (e:Env):∀(l:List Nat) (K:List V->Prop),yil e l K=K (l.map (get e))
 | [],_=>rfl
 | t::r,K=>by simp only [yil,zw4,z15 e r,List.map_cons]
def opK? (e:Env) (x:Option Opd) (K:Option V->Prop):Prop:=
 match x with
 | none=>K none
 | some x=>opK e x fun v=>K (some v)
theorem opK?_eq (e:Env) (x:Option Opd) (K:Option V->Prop):opK? e x K=K (x.map (·.ev e)):=by
 cases x with
 | none=>rfl
 | some x=>exact zce e x _
def yt7:Env->Nat->V->(Env->Prop)->Prop
 | [],t,v,K=>K [(t,v)]
 | (u,x)::r,t,v,K=>match Nat.beq u t with
  | true=>K ((t,v)::r)
  | false=>yt7 r t v fun r'=>K ((u,x)::r')
theorem yez:∀(e:Env) (t:Nat) (v:V) (K:Env->Prop),yt7 e t v K=K (put e t v)
 | [],_,_,_=>rfl
 | (u,x)::r,t,v,K=>by
  simp only [yt7,put]
  cases h:Nat.beq u t with
  | true=>simp [Nat.eq_of_beq_eq_true h]
  | false=>
   have:u≠t:=fun hh=>by rw [hh,Nat.beq_refl] at h;cases h
   simp only [if_neg this]
   exact yez r t v _
def put?K (e:Env) (t:Option Nat) (v:V) (K:Env->Prop):Prop:=
 match t with
 | none=>K e
 | some t=>yt7 e t v K
theorem put?K_eq (e:Env) (t:Option Nat) (v:V) (K:Env->Prop):put?K e t v K=K (put? e t v):=by
 cases t with
 | none=>rfl
 | some t=>exact yez e t v K
def yu1:List Nat->Nat->Bool
 | [],_=>false
 | u::r,t=>match Nat.beq u t with
  | true=>true
  | false=>yu1 r t
theorem ylf:∀(l:List Nat) (t:Nat),yu1 l t=l.elem t
 | [],_=>rfl
 | u::r,t=>by
  simp only [yu1]
  cases h:Nat.beq u t with
  | true=>simp [Nat.eq_of_beq_eq_true h]
  | false=>
   have:t≠u:=fun hh=>by rw [hh,Nat.beq_refl] at h;cases h
   simp only [ylf r t,List.elem_cons]
   have:(t==u)=false:=by simpa using this
   rw [this]
def zu9 (kill:List Nat):Env->(Env->Prop)->Prop
 | [],K=>K []
 | (u,v)::r,K=>match yu1 kill u with
  | true=>zu9 kill r K
  | false=>zu9 kill r fun r'=>K ((u,v)::r')
theorem zs0 (kill:List Nat):∀(e:Env) (K:Env->Prop),zu9 kill e K=K (zd0 kill e)
 | [],_=>rfl
 | (u,v)::r,K=>by
  simp only [zu9,ylf]
  cases h:kill.elem u with
  | true=>
   have hm:u∈kill:=by simpa using h
   simp only [zs0 kill r];simp [zd0,hm]
  | false=>
   have hm:u∉kill:=by simpa using h
   simp only [zs0 kill r];simp [zd0,hm]
def yly (e:Env):List Nat->(Env->Prop)->Prop
 | [],K=>K []
 | t::r,K=>yoj e t fun v=>yly e r fun r'=>K ((t,v)::r')
theorem z9i (e:Env):∀(live:List Nat) (K:Env->Prop),yly e live K=K (only live e)
 | [],_=>rfl
 | t::r,K=>by simp only [yly,zw4,z9i e r];rfl
def idB (i j:Id):Bool:=
 match Nat.beq i.slot j.slot with
 | true=>(match Nat.beq i.lv j.lv with
  | true=>Nat.beq i.k j.k
  | false=>false)
 | false=>false
theorem z8w {i j:Id} (h:idB i j=true):i=j:=by
 obtain⟨a,b,c⟩:=i
 obtain⟨x,y,z⟩:=j
 simp only [idB] at h
 split at h
 ·rename_i h1
  split at h
  ·rename_i h2
   rw [Nat.eq_of_beq_eq_true h1,Nat.eq_of_beq_eq_true h2,Nat.eq_of_beq_eq_true h]
  ·cases h
 ·cases h
theorem z3p {i j:Id} (h:idB i j=false):i≠j:=by
 rintro rfl
 obtain⟨a,b,c⟩:=i
 simp [idB,Nat.beq_refl] at h
def znc:Mem->Id->(Option Ob->Prop)->Prop
 | [],_,K=>K none
 | (j,o)::r,i,K=>match idB j i with
  | true=>K (some o)
  | false=>znc r i K
theorem zdl:∀(m:Mem) (i:Id) (K:Option Ob->Prop),znc m i K=K (look m i)
 | [],_,_=>rfl
 | (j,o)::r,i,K=>by
  simp only [znc,look]
  cases h:idB j i with
  | true=>simp [z8w h]
  | false=>simp only [if_neg (z3p h)];exact zdl r i K
def z09:Mem->Id->Ob->(Mem->Prop)->Prop
 | [],i,o,K=>K [(i,o)]
 | (j,x)::r,i,o,K=>match idB j i with
  | true=>K ((i,o)::r)
  | false=>z09 r i o fun r'=>K ((j,x)::r')
theorem zen:∀(m:Mem) (i:Id) (o:Ob) (K:Mem->Prop),z09 m i o K=K (upd m i o)
 | [],_,_,_=>rfl
 | (j,x)::r,i,o,K=>by
  simp only [z09,upd]
  cases h:idB j i with
  | true=>simp [z8w h]
  | false=>simp only [if_neg (z3p h)];exact zen r i o _
def ys2:List Id->Id->Bool
 | [],_=>false
 | u::r,t=>match idB u t with
  | true=>true
  | false=>ys2 r t
theorem yle:∀(l:List Id) (t:Id),ys2 l t=l.elem t
 | [],_=>rfl
 | u::r,t=>by
  simp only [ys2]
  cases h:idB u t with
  | true=>simp [z8w h]
  | false=>
   have h':t≠u:=fun hh=>z3p h hh.symm
   simp only [yle r t,List.elem_cons]
   have:(t==u)=false:=by simpa using h'
   rw [this]
def gcF (a b c:List Id):Mem->(Mem->Prop)->Prop
 | [],K=>K []
 | (i,o)::r,K=>match ys2 a i with
  | true=>gcF a b c r fun r'=>K ((i,o)::r')
  | false=>(match ys2 b i with
   | true=>gcF a b c r fun r'=>K ((i,o)::r')
   | false=>(match ys2 c i with
    | true=>gcF a b c r fun r'=>K ((i,o)::r')
    | false=>gcF a b c r K))
theorem yqk (a b c:List Id):∀(m:Mem) (K:Mem->Prop),gcF a b c m K=K (m.filter fun p=>a.elem p.1||b.elem p.1||c.elem p.1)
 | [],_=>rfl
 | (i,o)::r,K=>by
  simp only [gcF,yle]
  cases ha:a.elem i<;>cases hb:b.elem i<;>cases hc:c.elem i<;>simp only [yqk a b c r,List.filter_cons,ha,hb,hc]<;>rfl
def gcK (keep:List Id) (e:Env) (m:Mem) (K:Mem->Prop):Prop:=
 match m with
 | []=>K []
 | _::_=>gcF keep (yjs e) (idsAll m) m fun m1=>gcF keep (yjs e) (idsAll m1) m1 fun m2=>gcF keep (yjs e) (idsAll m2) m2 K
theorem ykt (keep:List Id) (e:Env) (m:Mem) (K:Mem->Prop):gcK keep e m K=K (gc keep e m):=by
 cases m with
 | nil=>rfl
 | cons p r=>simp only [gcK,yqk];rfl
def z6n (lv slot:Nat):Mem->(Nat->Prop)->Prop
 | [],K=>K 0
 | (j,_)::r,K=>match Nat.beq j.slot slot with
  | true=>(match Nat.beq j.lv lv with
   | true=>z6n lv slot r fun n=>K (max (j.k+1) n)
   | false=>z6n lv slot r K)
  | false=>z6n lv slot r K
theorem zyc (lv slot:Nat):∀(m:Mem) (K:Nat->Prop),z6n lv slot m K=K (freeK lv slot m)
 | [],_=>rfl
 | (j,o)::r,K=>by
  simp only [z6n,freeK]
  cases h1:Nat.beq j.slot slot with
  | false=>
   have:j.slot≠slot:=fun hh=>by rw [hh,Nat.beq_refl] at h1;cases h1
   simp only [this,and_false,if_false]
   exact zyc lv slot r K
  | true=>
   cases h2:Nat.beq j.lv lv with
   | false=>
    have:j.lv≠lv:=fun hh=>by rw [hh,Nat.beq_refl] at h2;cases h2
    simp only [this,false_and,if_false]
    exact zyc lv slot r K
   | true=>simp only [Nat.eq_of_beq_eq_true h1,Nat.eq_of_beq_eq_true h2,and_self,if_true,zyc lv slot r]
def yju (cx:Cx) (slot:Nat) (m:Mem) (K:Id->Prop):Prop:=z6n cx.lv slot m fun n=>K ⟨cx.lv,slot,n⟩
theorem zo9 (cx:Cx) (slot:Nat) (m:Mem) (K:Id->Prop):yju cx slot m K=K (newId cx slot m):=zyc _ _ _ _
def yd4 (cx:Cx) (slot:Nat):List yft->Mem->(List V->Mem->Prop)->Prop
 | [],m,K=>K [] m
 | .z x::r,m,K=>yd4 cx slot r m fun vs m'=>K (.d x::vs) m'
 | .own s::r,m,K=>yju cx slot m fun i=>z09 m i (.row s.wr s.t s.sz 0 []) fun m1=>yd4 cx slot r m1 fun vs m'=>K (.ref i 0 0 0::vs) m'
theorem z16 (cx:Cx) (slot:Nat):∀(l:List yft) (m:Mem) (K:List V->Mem->Prop),yd4 cx slot l m K=K (zbj cx slot l m).1 (zbj cx slot l m).2
 | [],_,_=>rfl
 | .z x::r,m,K=>by simp only [yd4,zbj,z16 cx slot r]
 | .own s::r,m,K=>by simp only [yd4,zbj,zo9,zen,z16 cx slot r]
mutual
def ziu (any:Bool) (m:Mem):V->(D->Prop)->Prop
 | .d x,K=>K x
 | .agg cs,K=>zyd any m cs fun ds=>K (.agg ds)
 | .fn f [] [],K=>K (.fn f)
 | .ref o off len top,K=>znc m o fun x=>
  match x with
  | some (.row wr _ sz n xs)=>
   (match (!wr||any) with
   | true=>zcp (n=top/\off+len<=n) (K (.list len (if off=0/\len=n then xs else win xs (off*sz) (len*sz))))
   | false=>False)
  | _=>False
 | _,_=>False
def zyd (any:Bool) (m:Mem):List V->(List D->Prop)->Prop
 | [],K=>K []
 | v::r,K=>ziu any m v fun d=>zyd any m r fun ds=>K (d::ds)
end
mutual
theorem zux (any:Bool) (m:Mem):∀(v:V) (K:D->Prop),ziu any m v K->∃d,freeze any m v=some d/\K d
 | .d x,K,h=>⟨x,rfl,h⟩
 | .agg cs,K,h=>by
  obtain⟨ds,h1,h2⟩:=zsm any m cs _ h
  exact⟨_,by simp only [freeze,h1];rfl,h2⟩
 | .ref o off len top,K,h=>by
  simp only [ziu,zdl] at h
  simp only [freeze]
  cases hl:look m o with
  | none=>rw [hl] at h;exact h.elim
  | some x=>
   rw [hl] at h
   cases x with
   | row wr t sz n xs=>
    simp only at h ⊢
    split at h
    ·rename_i hw
     have hc:(wr=false\/any=true)/\n=top/\off+len<=n:=⟨by cases wr<;>simp_all,h.need⟩
     exact⟨_,if_pos hc,h.go⟩
    ·exact h.elim
   | _=>exact h.elim
 | .tup _,_,h=>(by simp only [ziu] at h)
 | .ptr ..,_,h=>(by simp only [ziu] at h)
 | .lptr ..,_,h=>(by simp only [ziu] at h)
 | .fn f [] [],K,h=>⟨_,rfl,h⟩
 | .fn _ (_::_) _,_,h=>(by simp only [ziu] at h)
 | .fn _ [] (_::_),_,h=>(by simp only [ziu] at h)
 | .yld _,_,h=>(by simp only [ziu] at h)
 | .mp _,_,h=>(by simp only [ziu] at h)
 | .it _,_,h=>(by simp only [ziu] at h)
 | .skip,_,h=>(by simp only [ziu] at h)
 | .undef,_,h=>(by simp only [ziu] at h)
theorem zsm (any:Bool) (m:Mem):∀(vs:List V) (K:List D->Prop),zyd any m vs K->∃ds,zey any m vs=some ds/\K ds
 | [],K,h=>⟨[],rfl,h⟩
 | v::r,K,h=>by
  obtain⟨d,h1,h2⟩:=zux any m v _ h
  obtain⟨ds,h3,h4⟩:=zsm any m r _ h2
  exact⟨d::ds,by simp only [zey,h1,h3],h4⟩
end
def ysz:List D->(List V->Prop)->Prop
 | [],K=>K []
 | x::r,K=>ysz r fun vs=>K (.d x::vs)
theorem z77:∀(l:List D) (K:List V->Prop),ysz l K=K (asV l)
 | [],_=>rfl
 | x::r,K=>by simp only [ysz,asV,z77 r]
def yp6 (m:Mem) (v:V) (K:V->Prop):Prop:=
 match v with
 | .tup vs=>zyd true m vs fun xs=>ysz xs fun ys=>K (.tup ys)
 | v=>ziu true m v fun d=>K (.d d)
theorem yh7 (m:Mem) (v:V) (K:V->Prop) (h:yp6 m v K):∃r,yfm m v=some r/\K r:=by
 have simple:∀v:V,(∀vs,v≠ .tup vs)->ziu true m v (fun d=>K (.d d))->∃r,yfm m v=some r/\K r:=by
  intro v hv h
  obtain⟨d,h1,h2⟩:=zux true m v _ h
  refine⟨.d d,?_,h2⟩
  unfold yfm
  split
  ·rename_i vs;exact absurd rfl (hv vs)
  ·rw [h1];rfl
 cases v with
 | tup vs=>
  obtain⟨xs,h1,h2⟩:=zsm true m vs _ h
  rw [z77] at h2
  exact⟨_,by simp only [yfm,h1];rfl,h2⟩
 | _=>exact simple _ (by intro vs hh;cases hh) h
def yn3:List V->(Option (List D)->Prop)->Prop
 | [],K=>K (some [])
 | .d x::r,K=>yn3 r fun o=>
  match o with
  | some ds=>K (some (x::ds))
  | none=>K none
 | _::_,K=>K none
theorem yfx:∀(l:List V) (K:Option (List D)->Prop),yn3 l K=K (zvy l)
 | [],_=>rfl
 | v::r,K=>by
  cases v with
  | d x=>simp only [yn3,zvy,yfx r];cases zvy r<;>rfl
  | _=>rfl
def yuz (cs:List V) (K:V->Prop):Prop:=yn3 cs fun o=>
 match o with
 | some ds=>K (.d (.agg ds))
 | none=>K (.agg cs)
theorem yjz (cs:List V) (K:V->Prop):yuz cs K=K (yec cs):=by
 simp only [yuz,yfx,yec]
 cases zvy cs<;>rfl
def yas (v:V) (K:List V->Prop):Prop:=
 match v with
 | .d (.agg cs)=>ysz cs K
 | .agg cs=>K cs
 | .tup _=>False
 | .skip=>False
 | .undef=>False
 | v=>K [v]
theorem z3e (v:V) (K:List V->Prop) (h:yas v K):∃cs,cellsOf v=some cs/\K cs:=by
 cases v with
 | d x=>
  cases x with
  | agg cs=>simp only [yas,z77] at h;exact⟨_,rfl,h⟩
  | _=>exact⟨_,rfl,h⟩
 | tup _=>exact h.elim
 | skip=>exact h.elim
 | undef=>exact h.elim
 | _=>exact⟨_,rfl,h⟩
def over {α:Type}:List α->Nat->List α->List α
 | cs,0,[]=>cs
 | _::cs,0,x::xs=>x::over cs 0 xs
 | c::cs,n+1,xs=>c::over cs n xs
 | [],_,_=>[]
theorem yb0 {α:Type}:∀(cs xs:List α),xs.length<=cs.length->over cs 0 xs=xs++cs.drop xs.length
 | cs,[],_=>by simp [over]
 | [],x::xs,h=>by simp at h
 | c::cs,x::xs,h=>by
  simp only [over,yb0 cs xs (by simpa using h)]
  simp
theorem yer {α:Type}:∀(cs:List α) (off:Nat) (xs:List α),off+xs.length<=cs.length->over cs off xs=patch cs off xs
 | cs,0,xs,h=>by
  rw [yb0 cs xs (by omega)]
  simp [patch]
 | [],n+1,xs,h=>by simp at h
 | c::cs,n+1,xs,h=>by
  simp only [over,yer cs n xs (by simp at h;omega),patch]
  simp [Nat.add_right_comm]
def z5o {α:Type}:List α->Nat->List α->(List α->Prop)->Prop
 | cs,0,[],K=>K cs
 | _::cs,0,x::xs,K=>z5o cs 0 xs fun r=>K (x::r)
 | c::cs,n+1,xs,K=>z5o cs n xs fun r=>K (c::r)
 | [],_,_,K=>K []
theorem z2a {α:Type}:∀(cs:List α) (off:Nat) (xs:List α) (K:List α->Prop),z5o cs off xs K=K (over cs off xs)
 | cs,0,[],K=>by simp only [z5o,over]
 | [],0,x::xs,K=>by simp only [z5o,over]
 | c::cs,0,x::xs,K=>by simp only [z5o,over,z2a cs 0 xs]
 | [],n+1,xs,K=>by simp only [z5o,over]
 | c::cs,n+1,xs,K=>by simp only [z5o,over,z2a cs n xs]
def yrl (cs:List V):List (Nat×Nat×V)->(List V->Prop)->Prop
 | [],K=>K cs
 | (off,n,v)::r,K=>yas v fun xs=>
  match Nat.beq xs.length n with
  | true=>(match Nat.ble (off+n) cs.length with
   | true=>z5o cs off xs fun cs'=>yrl cs' r K
   | false=>False)
  | false=>False
theorem yge:∀(l:List (Nat×Nat×V)) (cs:List V) (K:List V->Prop),yrl cs l K->∃cs',ya8 cs l=some cs'/\K cs'
 | [],cs,K,h=>⟨cs,rfl,h⟩
 | (off,n,v)::r,cs,K,h=>by
  obtain⟨xs,h1,h2⟩:=z3e v _ h
  split at h2
  ·rename_i e1
   split at h2
   ·rename_i e2
    have e1':=Nat.eq_of_beq_eq_true e1
    have e2':=Nat.le_of_ble_eq_true e2
    rw [z2a] at h2
    obtain⟨cs',h3,h4⟩:=yge r _ K h2
    refine⟨cs',?_,h4⟩
    simp only [ya8,h1]
    rw [if_pos ⟨e1',e2'⟩,<-yer cs off xs (by omega)]
    exact h3
   ·exact h2.elim
  ·exact h2.elim
def yhc (e:Env):List (Nat×Nat×Opd)->(List (Nat×Nat×V)->Prop)->Prop
 | [],K=>K []
 | (a,b,x)::r,K=>opK e x fun v=>yhc e r fun l=>K ((a,b,v)::l)
theorem yb2 (e:Env):∀(l:List (Nat×Nat×Opd)) (K:List (Nat×Nat×V)->Prop),yhc e l K=K (zyr e l)
 | [],_=>rfl
 | (a,b,x)::r,K=>by simp only [yhc,zyr,zce,yb2 e r]
def ydl (m:Mem) (v:V) (K:List D->Prop):Prop:=ziu false m v fun d=>
 match d with
 | .agg cs=>K cs
 | x=>K [x]
theorem z6b (m:Mem) (v:V) (K:List D->Prop) (h:ydl m v K):∃cs,zs2 m v=some cs/\K cs:=by
 obtain⟨d,h1,h2⟩:=zux false m v _ h
 unfold zs2
 rw [h1]
 cases d<;>exact⟨_,rfl,h2⟩
def ybm (sz:Nat) (m:Mem):List V->(List D->Prop)->Prop
 | [],K=>K []
 | v::r,K=>ydl m v fun x=>match Nat.beq x.length sz with
  | true=>ybm sz m r fun xs=>K (x++xs)
  | false=>False
theorem zyk (sz:Nat) (m:Mem):∀(l:List V) (K:List D->Prop),ybm sz m l K->∃ds,ztq sz m l=some ds/\K ds
 | [],K,h=>⟨[],rfl,h⟩
 | v::r,K,h=>by
  obtain⟨x,h1,h2⟩:=z6b m v _ h
  split at h2
  ·rename_i e
   obtain⟨xs,h3,h4⟩:=zyk sz m r _ h2
   refine⟨x++xs,?_,h4⟩
   simp only [ztq,h1,h3,if_pos (Nat.eq_of_beq_eq_true e)]
  ·exact h2.elim
structure zc2 (n:Nat) (l h:Int) (K:Nat->Nat->Prop):Prop where
 ok:0<=h/\h<=n/\0<=l/\l<=h
 go:K l.toNat h.toNat
def zzf (n:Nat) (lo hi:Option V) (K:Nat->Nat->Prop):Prop:=
 match lo,hi with
 | none,none=>K 0 n
 | some (.d (.int _ l)),none=>zc2 n l n K
 | none,some (.d (.int _ h))=>zc2 n 0 h K
 | some (.d (.int _ l)),some (.d (.int _ h))=>zc2 n l h K
 | _,_=>False
theorem zuu (n:Nat) (lo hi:Option V) (K:Nat->Nat->Prop) (h:zzf n lo hi K):∃p,zc3 n lo hi=some p/\K p.1 p.2:=by
 unfold zzf at h
 split at h
 ·refine⟨(0,n),?_,h⟩
  simp [zc3]
 ·rename_i k l
  refine⟨(l.toNat,(n:Int).toNat),?_,h.go⟩
  simp only [zc3,asI]
  exact if_pos h.ok
 ·rename_i k l
  refine⟨((0:Int).toNat,l.toNat),?_,h.go⟩
  simp only [zc3,asI]
  exact if_pos h.ok
 ·rename_i k l k' l'
  refine⟨(l.toNat,l'.toNat),?_,h.go⟩
  simp only [zc3,asI]
  exact if_pos h.ok
 ·exact h.elim
def yl4 (n:Option Nat) (cs:List V) (off:Nat) (K:V->Prop):Prop:=
 match n with
 | none=>yia cs off K
 | some n=>zcp (off+n<=cs.length) (yuz (win cs off n) K)
theorem yb4 (n:Option Nat) (cs:List V) (off:Nat) (K:V->Prop) (h:yl4 n cs off K):∃v,yiv n cs off=some v/\K v:=by
 cases n with
 | none=>obtain⟨d,h1,h2⟩:=h.got;exact⟨d,h1,h2⟩
 | some n=>obtain⟨h1,h2⟩:=h;rw [yjz] at h2;exact⟨_,if_pos h1,h2⟩
def yb3 (n:Option Nat) (cs:List D) (off:Nat) (K:V->Prop):Prop:=
 match n with
 | none=>zgw cs off fun d=>K (.d d)
 | some n=>z7x cs off n fun ds=>K (.d (.agg ds))
theorem zyt (n:Option Nat) (cs:List D) (off:Nat) (K:V->Prop) (h:yb3 n cs off K):∃v,z5p n cs off=some v/\K v:=by
 cases n with
 | none=>obtain⟨d,h1,h2⟩:=h.got;exact⟨_,by simp only [z5p,h1];rfl,h2⟩
 | some n=>obtain⟨h1,h2⟩:=h;exact⟨_,if_pos h1,h2⟩
def yow (n:Option Nat) (m:Mem) (a:V) (K:V->Prop):Prop:=
 match a with
 | .lptr cs off=>yb3 n cs off K
 | .ptr o off top=>znc m o fun x=>
  match x with
  | some (.cells _ cs)=>yl4 n cs off K
  | some (.row _ _ _ l xs)=>zcp (l=top) (yb3 n xs off K)
  | _=>False
 | _=>False
theorem ygy (n:Option Nat) (m:Mem) (a:V) (K:V->Prop) (h:yow n m a K):∃v,z3z n m a=some v/\K v:=by
 unfold yow at h
 split at h
 ·exact zyt _ _ _ _ h
 ·rename_i o off top
  rw [zdl] at h
  simp only [z3z]
  split at h
  ·rename_i hl;rw [hl];exact yb4 _ _ _ _ h
  ·rename_i hl;rw [hl]
   obtain⟨v,h1,h2⟩:=zyt _ _ _ _ h.go
   exact⟨v,(if_pos h.need).trans h1,h2⟩
  ·exact h.elim
 ·exact h.elim
def yh3 (n:Nat) (m:Mem) (a x:V) (K:Mem->Prop):Prop:=
 match a with
 | .ptr o off top=>znc m o fun y=>
  match y with
  | some (.cells t cs)=>yas x fun xs=>zcp (xs.length=n/\off+n<=cs.length) (z5o cs off xs fun cs'=>z09 m o (.cells t cs') K)
  | some (.row true t sz l xs)=>ydl m x fun ds=>zcp (ds.length=n/\off+n<=xs.length/\l=top) (z09 m o (.row true t sz l (patch xs off ds)) K)
  | _=>False
 | _=>False
theorem yc1 (n:Nat) (m:Mem) (a x:V) (K:Mem->Prop) (h:yh3 n m a x K):∃m',zy0 n m a x=some m'/\K m':=by
 unfold yh3 at h
 split at h
 ·rename_i o off top
  rw [zdl] at h
  simp only [zy0]
  split at h
  ·rename_i hl;rw [hl]
   obtain⟨xs,h1,h2,h3⟩:=z3e x _ h
   rw [z2a,zen,yer _ _ _ (by omega)] at h3
   simp only [h1]
   exact⟨_,if_pos h2,h3⟩
  ·rename_i hl;rw [hl]
   obtain⟨ds,h1,h2,h3⟩:=z6b m x _ h
   rw [zen] at h3
   simp only [h1]
   exact⟨_,if_pos h2,h3⟩
  ·exact h.elim
 ·exact h.elim
def ym1 (sz:Nat) (m:Mem) (x:V) (lo hi mx:Option V) (K:V->Prop):Prop:=
 match x with
 | .d (.list n cs)=>zzf n lo hi fun l h=>
  match mx with
  | none=>K (.d (.list (h-l) (win cs (l*sz) ((h-l)*sz))))
  | some _=>zcp (hi.isSome/\mx.bind asI=hi.bind asI) (K (.d (.list (h-l) (win cs (l*sz) ((h-l)*sz)))))
 | .ref o off len top=>znc m o fun y=>
  match y with
  | some (.row wr _ sz' n xs)=>zcp (n=top/\off+len<=n/\sz'=sz) (zzf len lo hi fun l h=>
   match mx with
   | none=>(match wr with
    | true=>K (.ref o (off+l) (h-l) top)
    | false=>K (.d (.list (h-l) (win xs ((off+l)*sz) ((h-l)*sz)))))
   | some _=>False)
  | _=>False
 | .d .nil=>zzf 0 lo hi fun _ _=>
  match mx with
  | none=>K (.d .nil)
  | some _=>False
 | _=>False
theorem ym2 (sz:Nat) (m:Mem) (x:V) (lo hi mx:Option V) (K:V->Prop) (h:ym1 sz m x lo hi mx K):∃v,zv9 sz m x lo hi mx=some v/\K v:=by
 unfold ym1 at h
 split at h
 ·obtain⟨p,h1,h2⟩:=zuu _ _ _ _ h
  obtain⟨l,hh⟩:=p
  simp only [zv9,h1]
  cases mx with
  | none=>exact⟨_,if_pos (Or.inl rfl),h2⟩
  | some y=>exact⟨_,if_pos (Or.inr h2.need),h2.go⟩
 ·rename_i o off len top
  rw [zdl] at h
  simp only [zv9]
  split at h
  ·rename_i wr t1 sz1 n1 xs1 hl;rw [hl]
   obtain⟨h0,h⟩:=h
   obtain⟨p,h1,h2⟩:=zuu _ _ _ _ h
   obtain⟨l,hh⟩:=p
   simp only [if_pos h0,h1]
   cases mx with
   | none=>
    cases wr with
    | true=>exact⟨_,by simp,h2⟩
    | false=>exact⟨_,by simp,h2⟩
   | some y=>exact h2.elim
  ·exact h.elim
 ·obtain⟨p,h1,h2⟩:=zuu _ _ _ _ h
  simp only [zv9,h1]
  cases mx with
  | none=>exact⟨_,if_pos rfl,h2⟩
  | some y=>exact h2.elim
 ·exact h.elim
def z8z (sz:Nat) (m:Mem) (x i:V) (K:V->Prop):Prop:=
 match i with
 | .d (.int _ i)=>
  (match x with
  | .d (.list n cs)=>zcp (0<=i/\i<n) (K (.lptr cs (i.toNat*sz)))
  | .ref o off len top=>znc m o fun y=>
   match y with
   | some (.row _ _ sz' n _)=>zcp (0<=i/\i<len/\n=top/\off+len<=n/\sz'=sz) (K (.ptr o ((off+i.toNat)*sz) top))
   | _=>False
  | _=>False)
 | _=>False
theorem yd1 (sz:Nat) (m:Mem) (x i:V) (K:V->Prop) (h:z8z sz m x i K):∃v,znz sz m x i=some v/\K v:=by
 unfold z8z at h
 split at h
 ·split at h
  ·exact⟨_,if_pos h.need,h.go⟩
  ·rw [zdl] at h
   split at h
   ·rename_i hl;simp only [znz,asI,hl];exact⟨_,if_pos h.need,h.go⟩
   ·exact h.elim
  ·exact h.elim
 ·exact h.elim
def yo1 (off:Nat) (m:Mem) (v:V) (K:V->Prop):Prop:=
 match v with
 | .lptr cs b=>K (.lptr cs (b+off))
 | .ptr o b top=>znc m o fun x=>
  match x with
  | some (.cells ..)=>K (.ptr o (b+off) top)
  | some (.row _ _ _ n _)=>zcp (n=top) (K (.ptr o (b+off) top))
  | _=>False
 | _=>False
theorem yg3 (off:Nat) (m:Mem) (v:V) (K:V->Prop) (h:yo1 off m v K):∃r,zhg off m v=some r/\K r:=by
 unfold yo1 at h
 split at h
 ·exact⟨_,rfl,h⟩
 ·rw [zdl] at h
  split at h
  ·rename_i hl;exact⟨_,by simp only [zhg,z98,hl];rfl,h⟩
  ·rename_i hl;exact⟨_,by simp only [zhg,z98,hl,h.need];simp,h.go⟩
  ·exact h.elim
 ·exact h.elim
def yo7 (n:Option Nat) (x:V) (off:Nat) (K:V->Prop):Prop:=
 match x with
 | .d (.agg cs)=>yb3 n cs off K
 | .agg cs=>yl4 n cs off K
 | _=>False
theorem yhb (n:Option Nat) (x:V) (off:Nat) (K:V->Prop) (h:yo7 n x off K):∃r,yet n x off=some r/\K r:=by
 unfold yo7 at h
 split at h
 ·exact zyt _ _ _ _ h
 ·exact yb4 _ _ _ _ h
 ·exact h.elim
def yvn (m:Mem) (k:Kd) (v:V) (K:Nat->Prop):Prop:=
 match k with
 | .str=>(match v with
  | .d (.str s)=>K s.length
  | _=>False)
 | .slc=>(match v with
  | .d (.list n _)=>K n
  | .d .nil=>K 0
  | .ref o _ len top=>znc m o fun x=>
   match x with
   | some (.row _ _ _ n _)=>zcp (n=top) (K len)
   | _=>False
  | _=>False)
 | .map=>(match v with
  | .mp o=>znc m o fun x=>
   match x with
   | some (.map es)=>K es.length
   | _=>False
  | _=>False)
 | .cap=>(match v with
  | .d .nil=>K 0
  | _=>False)
theorem yru (m:Mem) (k:Kd) (v:V) (K:Nat->Prop) (h:yvn m k v K):∃n,yjt m k v=some n/\K n:=by
 unfold yvn at h
 split at h
 ·split at h
  ·exact⟨_,rfl,h⟩
  ·exact h.elim
 ·split at h
  ·exact⟨_,rfl,h⟩
  ·exact⟨_,rfl,h⟩
  ·rw [zdl] at h
   split at h
   ·rename_i hl;exact⟨_,by simp only [yjt,hl];exact if_pos h.need,h.go⟩
   ·exact h.elim
  ·exact h.elim
 ·split at h
  ·rw [zdl] at h
   split at h
   ·rename_i hl;exact⟨_,by simp only [yjt,hl],h⟩
   ·exact h.elim
  ·exact h.elim
 ·split at h
  ·exact⟨_,rfl,h⟩
  ·exact h.elim
def z6f (m:Mem) (v:V) (K:Nat->List D->Prop):Prop:=
 match v with
 | .d (.list n cs)=>K n cs
 | .d .nil=>K 0 []
 | .ref o off len top=>znc m o fun x=>
  match x with
  | some (.row _ _ sz n xs)=>zcp (n=top/\off+len<=n) (K len (if off=0/\len=n then xs else win xs (off*sz) (len*sz)))
  | _=>False
 | _=>False
theorem zx8 (m:Mem) (v:V) (K:Nat->List D->Prop) (h:z6f m v K):∃p,z0u m v=some p/\K p.1 p.2:=by
 unfold z6f at h
 split at h
 ·exact⟨_,rfl,h⟩
 ·exact⟨_,rfl,h⟩
 ·rw [zdl] at h
  split at h
  ·rename_i hl;exact⟨_,by simp only [z0u,hl];exact if_pos h.need,h.go⟩
  ·exact h.elim
 ·exact h.elim
def zxi (cx:Cx) (slot:Nat) (r:zde) (m:Mem) (k:Nat) (ds:List D) (s:V) (K:V->Mem->Prop):Prop:=
 match s with
 | .ref o off len top=>znc m o fun x=>
  match x with
  | some (.row wr t sz n xs)=>
   zcp (off=0/\len=n/\n=top/\t=r.t/\sz=r.sz/\ds.length=k*sz/\(n+k)*r.by_<=140737488355328/\n+k<=140737488355328)
    (z09 m o (.row wr t sz (n+k) (xs++ds)) fun m'=>K (.ref o 0 (n+k) (n+k)) m')
  | _=>False
 | .d .nil=>zcp (k≠0/\ds.length=k*r.sz/\k*r.by_<=140737488355328/\k<=140737488355328) (yju cx slot m fun i=>z09 m i (.row r.wr r.t r.sz k ds) fun m'=>K (.ref i 0 k k) m')
 | _=>False
theorem zwc (cx:Cx) (slot:Nat) (r:zde) (m:Mem) (k:Nat) (ds:List D) (s:V) (K:V->Mem->Prop) (h:zxi cx slot r m k ds s K):
  ∃p,zr0 cx slot r m (some (k,ds)) s=some p/\K p.1 p.2:=by
 unfold zxi at h
 split at h
 ·rw [zdl] at h
  split at h
  ·rename_i hl
   obtain⟨⟨h1,h2,h3,h4,h5,h6,h7,h8⟩,h9⟩:=h
   rw [zen] at h9
   refine⟨(_,_),?_,h9⟩
   simp only [zr0,hl]
   exact if_pos ⟨h1,h2,h3,h4,h5,h6,by simp [z1t,h7,h8]⟩
  ·exact h.elim
 ·obtain⟨⟨h1,h2,h3,h4⟩,h9⟩:=h
  rw [zo9,zen] at h9
  refine⟨(_,_),?_,h9⟩
  simp only [zr0]
  exact if_pos ⟨h1,h2,by simp [z1t,h3,h4]⟩
 ·exact h.elim
def eqB:D->D->(Prop->Prop)->Prop
 | .int k a,.int l b,K=>(match decide (k=l) with
  | true=>K (a=b)
  | false=>False)
 | .bool a,.bool b,K=>K (a=b)
 | .str a,.str b,K=>K (a=b)
 | _,_,_=>False
def yri:List D->List D->(Prop->Prop)->Prop
 | [],[],K=>K True
 | [x],[y],K=>eqB x y K
 | x::x2::r,y::y2::s,K=>eqB x y fun p=>yri (x2::r) (y2::s) fun q=>K (p/\q)
 | _,_,_=>False
theorem yqi (x y:D) (K:Prop->Prop) (h:eqB x y K):∃b p,eqD x y=some b/\(b=true↔p)/\K p:=by
 unfold eqB at h
 split at h
 ·split at h
  ·rename_i a _ b _ e
   exact⟨decide (a=b),a=b,by simp only [eqD];exact if_pos (of_decide_eq_true e),by simp,h⟩
  ·exact h.elim
 ·rename_i a b
  exact⟨a==b,a=b,rfl,by simp,h⟩
 ·rename_i a b
  exact⟨a==b,a=b,rfl,by simp,h⟩
 ·exact h.elim
theorem ykj:∀(xs ys:List D) (K:Prop->Prop),yri xs ys K->∃b p,eqL xs ys=some b/\(b=true↔p)/\K p
 | [],[],_,h=>⟨true,True,rfl,by simp,h⟩
 | [x],[y],K,h=>by
  obtain⟨a,p,h1,h2,h3⟩:=yqi x y _ h
  exact⟨a&&true,p,by simp only [eqL,h1],by simpa using h2,h3⟩
 | x::x2::r,y::y2::s,K,h=>by
  obtain⟨a,p,h1,h2,h3⟩:=yqi x y _ h
  obtain⟨b,q,h4,h5,h6⟩:=ykj (x2::r) (y2::s) _ h3
  refine⟨a&&b,p/\q,?_,by simp [h2,h5],h6⟩
  rw [eqL,h1,h4]
 | [],_::_,_,h=>(by simp only [yri] at h)
 | _::_,[],_,h=>(by simp only [yri] at h)
 | [_],_::_::_,_,h=>(by simp only [yri] at h)
 | _::_::_,[_],_,h=>(by simp only [yri] at h)
def yvk (ks:Option (List KK)) (x y:V) (K:Bool->Prop):Prop:=
 match ks with
 | none=>
  (match x,y with
  | .d (.bool a),.d (.bool b)=>K (a==b)
  | _,_=>False)
 | some ks=>
  (match x,y with
  | .d (.agg a),.d (.agg b)=>
   (match zc1 ks a&&zc1 ks b with
   | true=>yri a b fun p=>Cmp p (K true) (K false)
   | false=>False)
  | _,_=>False)
theorem yrj (ks:Option (List KK)) (x y:V) (K:Bool->Prop) (h:yvk ks x y K):∃b,eqV ks x y=some b/\K b:=by
 unfold yvk at h
 split at h
 ·split at h
  ·exact⟨_,rfl,h⟩
  ·exact h.elim
 ·split at h
  ·split at h
   ·rename_i hk
    obtain⟨b,p,h1,h2,h3⟩:=ykj _ _ _ h
    refine⟨b,by simp only [eqV];rw [if_pos hk];exact h1,?_⟩
    cases b with
    | true=>exact h3.yes (h2.1 rfl)
    | false=>exact h3.no fun hp=>Bool.noConfusion (h2.2 hp)
   ·exact h.elim
  ·exact h.elim
def yrf (p:Prop) (K:D->Prop):Prop:=Cmp p (K (.bool true)) (K (.bool false))
theorem yka {p:Prop} [Decidable p] {K:D->Prop} (h:yrf p K):K (.bool (decide p)):=by
 by_cases hp:p
 ·have:=h.yes hp;simpa [hp] using this
 ·have:=h.no hp;simpa [hp] using this
def yr0 (p:Prop) (K:D->Prop):Prop:=Cmp p (K (.bool false)) (K (.bool true))
theorem yg7 {p:Prop} [Decidable p] {K:D->Prop} (h:yr0 p K):K (.bool (!decide p)):=by
 by_cases hp:p
 ·have:=h.yes hp;simpa [hp] using this
 ·have:=h.no hp;simpa [hp] using this
def ydj (op:BinOp) (k:IntKind) (a b:Int) (K:D->Prop):Prop:=
 match op with
 | .add=>Wr k (a+b) fun n=>K (.int k n)
 | .sub=>Wr k (a-b) fun n=>K (.int k n)
 | .mul=>Wr k (a*b) fun n=>K (.int k n)
 | .quo=>Quo k a b fun n=>K (.int k n)
 | .rem=>Rem a b fun n=>K (.int k n)
 | .and=>K (.int k (k.wrap ((BitVec.ofInt k.bits a&&&BitVec.ofInt k.bits b).toNat)))
 | .or=>K (.int k (k.wrap ((BitVec.ofInt k.bits a|||BitVec.ofInt k.bits b).toNat)))
 | .xor=>K (.int k (k.wrap ((BitVec.ofInt k.bits a^^^BitVec.ofInt k.bits b).toNat)))
 | .andNot=>K (.int k (k.wrap ((BitVec.ofInt k.bits a&&&~~~ BitVec.ofInt k.bits b).toNat)))
 | .eql=>yrf (a=b) K
 | .neq=>yr0 (a=b) K
 | .lss=>yrf (a<b) K
 | .leq=>yrf (a<=b) K
 | .gtr=>yrf (b<a) K
 | .geq=>yrf (b<=a) K
 | _=>False
theorem yie (op:BinOp) (k:IntKind) (a b:Int) (K:D->Prop) (h:ydj op k a b K):∃d,z2q op k a b=some d/\K d:=by
 cases op<;>simp only [ydj] at h<;>simp only [z2q]
 all_goals first
  | exact⟨_,rfl,h.go⟩
  | exact⟨_,if_neg h.ne,h.go⟩
  | exact⟨_,rfl,h⟩
  | exact⟨_,rfl,yka h⟩
  | exact⟨_,rfl,yg7 h⟩
def ydk (op:BinOp) (a b:List UInt8) (K:D->Prop):Prop:=
 match op with
 | .add=>zcp (a.length+b.length<=zrm) (K (.str (a++b)))
 | .eql=>yrf (a=b) K
 | .neq=>yr0 (a=b) K
 | .lss=>K (.bool (zbs a b))
 | .leq=>K (.bool (zbs a b||a==b))
 | .gtr=>K (.bool (!(zbs a b||a==b)))
 | .geq=>K (.bool (!zbs a b))
 | _=>False
theorem yif (op:BinOp) (a b:List UInt8) (K:D->Prop) (h:ydk op a b K):∃d,z58 op a b=some d/\K d:=by
 have hb:(a==b)=decide (a=b):=by by_cases e:a=b<;>simp [e]
 cases op<;>simp only [ydk] at h<;>simp only [z58]
 all_goals first
  | exact⟨_,if_pos h.need,h.go⟩
  | exact⟨_,rfl,by rw [hb];exact yka h⟩
  | exact⟨_,rfl,by rw [hb];exact yg7 h⟩
  | exact⟨_,rfl,h⟩
def yvg (op:BinOp) (x y:V) (K:D->Prop):Prop:=
 match x,y with
 | .d (.int k a),.d (.int l b)=>
  (match op with
  | .shl=>zcp (0<=b) (Wr k (a*2^(min b.toNat k.bits)) fun n=>K (.int k n))
  | .shr=>zcp (0<=b) (K (.int k (a.fdiv (2^(min b.toNat k.bits)))))
  | _=>(match decide (k=l) with
   | true=>ydj op k a b K
   | false=>False))
 | .d (.str a),.d (.str b)=>ydk op a b K
 | _,_=>False
theorem yq9 (op:BinOp) (x y:V) (K:D->Prop) (h:yvg op x y K):∃d,ys1 op x y=some d/\K d:=by
 unfold yvg at h
 split at h
 ·simp only [ys1]
  split at h
  ·exact⟨_,if_pos h.need,h.go.go⟩
  ·exact⟨_,if_pos h.need,h.go⟩
  ·rename_i n1 n2
   split at h
   ·rename_i e
    obtain⟨d,h1,h2⟩:=yie _ _ _ _ _ h
    refine⟨d,?_,h2⟩
    cases op<;>first |exact(if_pos (of_decide_eq_true e)).trans h1|exact absurd rfl n1|exact absurd rfl n2
   ·exact h.elim
 ·exact yif _ _ _ _ h
 ·exact h.elim
def zyl (mx:Bool) (k:IntKind):Int->List V->(D->Prop)->Prop
 | a,[],K=>K (.int k a)
 | a,.d (.int _ b)::r,K=>
  (match mx with
  | true=>zyl mx k (if b>a then b else a) r K
  | false=>zyl mx k (if b<a then b else a) r K)
 | _,_::_,_=>False
def yeb (mx:Bool) (l:List V) (K:D->Prop):Prop:=
 match l with
 | .d (.int k a)::r=>zyl mx k a r K
 | _=>False
theorem zw7 (mx:Bool) (k:IntKind):∀(l:List V) (a:Int) (K:D->Prop),zyl mx k a l K->∃d,zss.go mx k a l=some d/\K d
 | [],a,K,h=>⟨.int k a,rfl,h⟩
 | v::r,a,K,h=>by
  unfold zyl at h
  split at h
  ·rename_i e;cases e
  ·rename_i _ _ _ a' b r' K' e
   obtain⟨rfl,rfl⟩:=(List.cons.injEq ..).mp e
   simp only [zss.go]
   cases mx with
   | true=>exact zw7 true k r _ _ h
   | false=>exact zw7 false k r _ _ h
  ·exact h.elim
theorem yis (mx:Bool) (l:List V) (K:D->Prop) (h:yeb mx l K):∃d,zss mx l=some d/\K d:=by
 unfold yeb at h
 split at h
 ·exact zw7 mx _ _ _ K h
 ·exact h.elim
end Go.Evl
namespace Go.Evl
def yrw (nx:Nat):List Id->Bool
 | []=>true
 | i::r=>match Nat.blt i.lv nx with
  | true=>yrw nx r
  | false=>false
theorem z30 (nx:Nat):∀(l:List Id),yrw nx l=zjv nx l
 | []=>rfl
 | i::r=>by
  simp only [yrw]
  cases h:Nat.blt i.lv nx with
  | true=>
   have:i.lv<nx:=Nat.le_of_ble_eq_true h
   simp only [z30 nx r]
   simp [zjv,this]
  | false=>
   have:¬i.lv<nx:=fun hh=>by
    have:=Nat.ble_eq_true_of_le (show i.lv+1<=nx from hh)
    simp only [Nat.blt] at h
    rw [this] at h;cases h
   simp [zjv,this]
def yd6:Mem->(List Id->Prop)->Prop
 | [],K=>K []
 | (i,_)::r,K=>yd6 r fun l=>K (i::l)
theorem zyh:∀(m:Mem) (K:List Id->Prop),yd6 m K=K (zps m)
 | [],_=>rfl
 | (i,o)::r,K=>by simp only [yd6,zyh r];rfl
def z57 (nx:Nat):Mem->(Mem->Prop)->Prop
 | [],K=>K []
 | (i,o)::r,K=>match Nat.blt i.lv nx with
  | true=>z57 nx r fun r'=>K ((i,o)::r')
  | false=>z57 nx r K
theorem zxr (nx:Nat):∀(m:Mem) (K:Mem->Prop),z57 nx m K=K (zew nx m)
 | [],_=>rfl
 | (i,o)::r,K=>by
  simp only [z57]
  cases h:Nat.blt i.lv nx with
  | true=>
   have:i.lv<nx:=Nat.le_of_ble_eq_true h
   simp only [zxr nx r]
   simp [zew,this]
  | false=>
   have:¬i.lv<nx:=fun hh=>by
    have:=Nat.ble_eq_true_of_le (show i.lv+1<=nx from hh)
    simp only [Nat.blt] at h
    rw [this] at h;cases h
   simp only [zxr nx r]
   simp [zew,this]
def zzc (cx:Cx) (slot:Nat) (imm:Bool) (v:V) (m':Mem) (K:V->Mem->Prop):Prop:=z57 cx.nx m' fun old=>
 match yrw cx.nx (idsAll old) with
 | true=>(match imm with
  | true=>(match (ids v).all fun i=>Nat.ble cx.nx i.lv with
   | true=>yp6 m' v fun r=>K r old
   | false=>False)
  | false=>ztt (settle cx slot cx.nx old m' v) fun p=>K p.1 p.2)
 | false=>False
def callW (E:Oracle) (cx:Cx) (slot:Nat) (shared imm:Bool) (f:V) (args:List V) (m:Mem) (K:V->Mem->Prop):Prop:=
 match shared with
 | false=>(match f with
  | .fn f first caps=>zyd false m (first ++args++caps) fun ds=>ysz ds fun vs=>
   (match imm with
   | true=>zai E f vs fun v=>K v m
   | false=>zcb E f vs cx slot m K)
  | _=>False)
 | true=>yd6 m fun ks=>(match yrw cx.nx ks with
  | true=>(match f with
   | .fn f first caps=>In E cx.nx f (first ++args++caps) m fun v m'=>zzc cx slot imm v m' K
   | .yld o=>Rnd E cx.nx o args m fun v m'=>zzc cx slot imm v m' K
   | _=>False)
  | false=>False)
section
variable {E : Oracle}
theorem z78 {cx:Cx} {slot:Nat} {imm:Bool} {v:V} {m':Mem} {K:V->Mem->Prop} (h:zzc cx slot imm v m' K):
  ∃p,(if zjv cx.nx (idsAll (zew cx.nx m')) then zpu cx slot cx.nx imm (zew cx.nx m') m' v else none)=some p/\K p.1 p.2:=by
 simp only [zzc,zxr,z30] at h
 split at h
 ·rename_i hl
  rw [if_pos hl]
  split at h
  ·split at h
   ·rename_i ha
    obtain⟨r,h1,h2⟩:=yh7 _ _ _ h
    refine⟨(r,zew cx.nx m'),?_,h2⟩
    have ha':((ids v).all fun i=>decide (cx.nx<=i.lv))=true:=by
     rw [List.all_eq_true] at ha ⊢
     intro i hi
     simpa using Nat.le_of_ble_eq_true (ha i hi)
    simp only [zpu,if_true,ha',h1]
    rfl
   ·exact h.elim
  ·obtain⟨p,h1,h2⟩:=h.got
   exact⟨p,by simp only [zpu];exact h1,h2⟩
 ·exact h.elim
theorem callW_ok {cx:Cx} {slot:Nat} {shared imm:Bool} {f:V} {args:List V} {m:Mem} {K:V->Mem->Prop} (h:callW E cx slot shared imm f args m K):
  ∃p,zlw E cx slot shared imm f args m=some p/\K p.1 p.2:=by
 unfold callW at h
 split at h
 ·split at h
  ·rename_i f first caps
   obtain⟨ds,h1,h2⟩:=zsm _ _ _ _ h
   rw [z77] at h2
   simp only [zlw,h1]
   split at h2
   ·obtain⟨r,⟨v,m',h3,h4⟩,h5⟩:=h2.got
    refine⟨(r,m),?_,h5⟩
    have hall:((ids v).all fun i=>decide (0<=i.lv))=true:=by simp
    simp only [h3,zpu,hall,h4]
    rfl
   ·obtain⟨v,m',p,h3,h4,h5⟩:=h2.got
    refine⟨p,?_,h5⟩
    simp only [h3,zpu,h4]
    rfl
  ·exact h.elim
 ·simp only [zyh,z30] at h
  split at h
  ·rename_i hl
   simp only [zlw,if_true,hl]
   split at h
   ·obtain⟨v,m',h1,h2⟩:=h.got
    simp only [zi9,h1]
    exact z78 h2
   ·obtain⟨v,m',h1,h2⟩:=h.got
    simp only [zi9,h1]
    exact z78 h2
   ·exact h.elim
  ·exact h.elim
structure zrz (key:D) (es:List (D×V)) (K:Option V->Prop):Prop where
 got:∃r,zkj key es=some r/\K r
structure yv5 (key:D) (x:V) (es:List (D×V)) (K:List (D×V)->Prop):Prop where
 got:∃r,setE key x es=some r/\K r
structure zwb (s:List UInt8) (pos:Nat) (some_:Int->Nat->Prop) (none_:Prop):Prop where
 yes:pos<s.length->some_ (Utf8.decode ⟨s.toArray⟩ pos).1 (Utf8.decode ⟨s.toArray⟩ pos).2
 no:¬pos<s.length->none_
def yd8 (kk:KK) (zero:D) (ok:Bool) (m:Mem) (x key:V) (K:V->Prop):Prop:=
 match key with
 | .d key=>
  (match zjq kk key with
  | true=>(match x with
   | .mp o=>znc m o fun ob=>
    match ob with
    | some (.map es)=>zrz key es fun r=>K (yqm zero ok r)
    | _=>False
   | .d .nilm=>K (yqm zero ok none)
   | _=>False)
  | false=>False)
 | _=>False
theorem yiq {kk:KK} {zero:D} {ok:Bool} {m:Mem} {x key:V} {K:V->Prop} (h:yd8 kk zero ok m x key K):∃v,zq1 kk zero ok m x key=some v/\K v:=by
 unfold yd8 at h
 split at h
 ·split at h
  ·rename_i hk
   simp only [zq1,if_pos hk]
   split at h
   ·rw [zdl] at h
    split at h
    ·rename_i hl
     obtain⟨r,h1,h2⟩:=h.got
     exact⟨_,by simp only [hl,h1];rfl,h2⟩
    ·exact h.elim
   ·exact⟨_,rfl,h⟩
   ·exact h.elim
  ·exact h.elim
 ·exact h.elim
def yvp (m:Mem) (x:V) (K:Nat->Bool->Prop):Prop:=
 match x with
 | .d .nilp=>K 0 true
 | .d .nilf=>K 4 true
 | .d .nili=>K 1 true
 | .d (.ifc true)=>K 1 false
 | .d .nilm=>K 3 true
 | .d (.fn _)=>K 4 false
 | .d (.list n _)=>zcp (n≠0) (K 2 false)
 | .fn .. =>K 4 false
 | .lptr .. =>K 0 false
 | .ptr o _ top=>znc m o fun ob=>
  match ob with
  | some (.cells ..)=>K 0 false
  | some (.row _ _ _ n _)=>zcp (n=top) (K 0 false)
  | _=>False
 | .ref o off len top=>znc m o fun ob=>
  match ob with
  | some (.row _ _ _ n _)=>zcp (n=top/\off+len<=n/\len≠0) (K 2 false)
  | _=>False
 | _=>False
theorem yr1 {m:Mem} {x:V} {K:Nat->Bool->Prop} (h:yvp m x K):∃k b,yli m x=some (k,b)/\K k b:=by
 unfold yvp at h
 split at h
 ·exact⟨_,_,rfl,h⟩
 ·exact⟨_,_,rfl,h⟩
 ·exact⟨_,_,rfl,h⟩
 ·exact⟨_,_,rfl,h⟩
 ·exact⟨_,_,rfl,h⟩
 ·exact⟨_,_,rfl,h⟩
 ·rename_i n cs
  cases n with
  | zero=>exact absurd rfl h.need
  | succ n=>exact⟨_,_,rfl,h.go⟩
 ·exact⟨_,_,rfl,h⟩
 ·exact⟨_,_,rfl,h⟩
 ·rw [zdl] at h
  split at h
  ·rename_i hl;exact⟨_,_,by simp only [yli,z98,hl];rfl,h⟩
  ·rename_i hl;exact⟨_,_,by simp [yli,z98,hl,h.need],h.go⟩
  ·exact h.elim
 ·rw [zdl] at h
  split at h
  ·rename_i hl;exact⟨_,_,by simp only [yli,hl];exact if_pos h.need,h.go⟩
  ·exact h.elim
 ·exact h.elim
def z89 (kk:KK) (m:Mem) (x key v:V) (K:V->Mem->Prop):Prop:=
 match x,key with
 | .mp o,.d key=>znc m o fun ob=>
  (match ob with
  | some (.map es)=>(match zjq kk key&&(cellsOf v).isSome with
   | true=>yv5 key v es fun es'=>z09 m o (.map es') fun m'=>K .skip m'
   | false=>False)
  | _=>False)
 | _,_=>False
theorem z61 {kk:KK} {m:Mem} {x key v:V} {K:V->Mem->Prop} (h:z89 kk m x key v K):∃m',zjr kk m x key v=some m'/\K .skip m':=by
 unfold z89 at h
 split at h
 ·rw [zdl] at h
  split at h
  ·rename_i hl
   split at h
   ·rename_i hb
    obtain⟨r,h1,h2⟩:=h.got
    rw [zen] at h2
    exact⟨_,by simp only [zjr,hl,if_pos hb,h1];rfl,h2⟩
   ·exact h.elim
  ·exact h.elim
 ·exact h.elim
structure zlp (E:Oracle) (f:V) (args:List V) (m:Mem) (K:V->Prop):Prop where
 got:∃v,zx6 E f args m=some v/\K v
structure zpg (E:Oracle) (imm:Bool) (f:V) (args:List V) (m:Mem) (K:V->Mem->Prop):Prop where
 got:∃v m',zv0 E imm f args m=some (v,m')/\K v m'
def zlo (E:Oracle) (cx:Cx) (slot:Nat) (e:Env) (m:Mem) (op:COp) (K:V->Mem->Prop):Prop:=
 match op with
 | .mv x=>opK e x fun v=>K v m
 | .ownNil r=>yju cx slot m fun i=>z09 m i (.row r.wr r.t r.sz 0 []) fun m'=>K (.ref i 0 0 0) m'
 | .pick c a b=>opK e c fun c=>
  match c with
  | .d (.bool t)=>Br t (opK e a fun v=>K v m) (opK e b fun v=>K v m)
  | _=>False
 | .alloc t cs=>yd4 cx slot cs m fun vs m1=>yju cx slot m1 fun i=>z09 m1 i (.cells t vs) fun m2=>K (.ptr i 0 0) m2
 | .box t x=>opK e x fun v=>yas v fun cs=>yju cx slot m fun i=>z09 m i (.cells t cs) fun m2=>K (.ptr i 0 0) m2
 | .build zero parts=>yd4 cx slot zero m fun vs m1=>yhc e parts fun ps=>yrl vs ps fun cs=>yuz cs fun v=>K v m1
 | .mkList sz n parts=>yc9 e parts fun vs=>ybm sz m vs fun ds=>K (.d (.list n ds)) m
 | .mkListD sz n parts=>yc9 e parts fun vs=>Chk (yk0 vs) (ybm sz [] vs fun ds=>K (.d (.list n ds)) m)
 | .mkRow r n parts=>yc9 e parts fun vs=>ybm r.sz m vs fun ds=>yju cx slot m fun i=>z09 m i (.row r.wr r.t r.sz n ds) fun m2=>K (.ref i 0 n n) m2
 | .load n a=>opK e a fun a=>yow n m a fun v=>K v m
 | .store n a x=>opK e a fun a=>opK e x fun x=>yh3 n m a x fun m'=>K .skip m'
 | .nilCheck x=>opK e x fun v=>
  match v with
  | .fn f a b=>K (.fn f a b) m
  | .d (.fn f)=>K (.fn f [] []) m
  | .lptr cs o=>K (.lptr cs o) m
  | .ptr o off top=>znc m o fun ob=>
   match ob with
   | some (.cells ..)=>K (.ptr o off top) m
   | some (.row _ _ _ n _)=>zcp (n=top) (K (.ptr o off top) m)
   | _=>False
  | _=>False
 | .bin op x y=>opK e x fun x=>opK e y fun y=>yvg op x y fun d=>K (.d d) m
 | .eqv ks neg x y=>opK e x fun x=>opK e y fun y=>yvk ks x y fun b=>
  match neg with
  | true=>K (.d (.bool (!b))) m
  | false=>K (.d (.bool b)) m
 | .un op x=>opK e x fun x=>
  match op,x with
  | .not,.d (.bool b)=>K (.d (.bool (!b))) m
  | .neg,.d (.int k n)=>Wr k (0-n) fun n=>K (.d (.int k n)) m
  | _,_=>False
 | .conv k x=>opK e x fun x=>
  match x with
  | .d (.int _ n)=>Wr k n fun n=>K (.d (.int k n)) m
  | _=>False
 | .mkFunc f first caps=>yc9 e first fun a=>yc9 e caps fun b=>K (.fn f a b) m
 | .makeRow r zero n=>opK e n fun n=>
  match n with
  | .d (.int _ n)=>zcp (0<=n/\zero.length=r.sz/\n.toNat*r.by_<=140737488355328/\n.toNat<=140737488355328)
   (yju cx slot m fun i=>z09 m i (.row r.wr r.t r.sz n.toNat (List.replicate n.toNat zero).flatten) fun m'=>K (.ref i 0 n.toNat n.toNat) m')
  | _=>False
 | .sliceS x lo hi=>opK e x fun x=>opK? e lo fun lo=>opK? e hi fun hi=>
  match x with
  | .d (.str s)=>zzf s.length lo hi fun l h=>K (.d (.str (win s l (h-l)))) m
  | _=>False
 | .slice sz x lo hi mx=>opK e x fun x=>opK? e lo fun lo=>opK? e hi fun hi=>opK? e mx fun mx=>ym1 sz m x lo hi mx fun v=>K v m
 | .fieldAddr off x=>opK e x fun x=>yo1 off m x fun v=>K v m
 | .field off n x=>opK e x fun x=>yo7 n x off fun v=>K v m
 | .idxAddr sz x i=>opK e x fun x=>opK e i fun i=>z8z sz m x i fun v=>K v m
 | .idxAddrA len sz x i=>opK e x fun x=>opK e i fun i=>
  match i with
  | .d (.int _ i)=>zcp (0<=i/\i<len) (yo1 (i.toNat*sz) m x fun v=>K v m)
  | _=>False
 | .idxS x i=>opK e x fun x=>opK e i fun i=>
  match x,i with
  | .d (.str s),.d (.int _ i)=>zcp (0<=i) (zva s i.toNat fun b=>K (.d (.int .u8 b.toNat)) m)
  | _,_=>False
 | .idxA len sz n x i=>opK e x fun x=>opK e i fun i=>
  match i with
  | .d (.int _ i)=>zcp (0<=i/\i<len) (yo7 n x (i.toNat*sz) fun v=>K v m)
  | _=>False
 | .mkMap=>yju cx slot m fun i=>z09 m i (.map []) fun m'=>K (.mp i) m'
 | .lookup kk zero ok x key=>opK e x fun x=>opK e key fun key=>yd8 kk zero ok m x key fun v=>K v m
 | .mapSet kk x key v=>opK e x fun x=>opK e key fun key=>opK e v fun v=>z89 kk m x key v K
 | .mapSetR kk x key v rs=>opK e x fun x=>opK e key fun key=>opK e v fun v=>yil e rs fun vs=>Chk (yf0 x vs) (z89 kk m x key v K)
 | .callD f args=>opK e f fun f=>yc9 e args fun vs=>
  match zts f with
  | .fn g [] []=>Chk (yk0 vs) (callW E cx slot false true (.fn g [] []) vs m K)
  | _=>False
 | .callQ f args=>opK e f fun f=>yc9 e args fun vs=>zlp E (zts f) vs m fun v=>K v m
 | .callU imm f args=>opK e f fun f=>yc9 e args fun vs=>zpg E imm (zts f) vs m K
 | .callK imm f args=>opK e f fun f=>yc9 e args fun vs=>callW E cx slot true imm (zts f) vs m fun v m'=>Chk (leM m m' m) (K v m)
 | .callN f args=>opK e f fun f=>yc9 e args fun vs=>
  match zts f with
  | .fn g [] []=>Chk (yk0 vs) (callW E cx slot false false (.fn g [] []) vs m K)
  | _=>False
 | .nilEq kd neg x=>opK e x fun x=>yvp m x fun k b=>Chk (Nat.beq k kd) (K (.d (.bool (if neg then !b else b))) m)
 | .loadD n a=>opK e a fun a=>
  match a with
  | .lptr cs off=>yb3 n cs off fun v=>K v m
  | _=>False
 | .idxAddrD sz x i=>opK e x fun x=>opK e i fun i=>
  match x with
  | .d (.list n cs)=>(match i with
   | .d (.int _ i)=>zcp (0<=i/\i<n) (K (.lptr cs (i.toNat*sz)) m)
   | _=>False)
  | _=>False
 | .appendIn r s x=>opK e s fun s=>opK e x fun x=>z6f m x fun k ds=>
  match s with
  | .ref o off len top=>znc m o fun ob=>
   match ob with
   | some (.row true t sz n xs)=>zcp (n=top/\off+len+k<=n/\off+len<n/\t=r.t/\sz=r.sz/\ds.length=k*sz)
    (z09 m o (.row true t sz n (patch xs ((off+len)*sz) ds)) fun m'=>K (.ref o off (len+k) top) m')
   | _=>False
  | _=>False
 | .rangeS x=>opK e x fun x=>
  match x with
  | .d (.str s)=>yju cx slot m fun i=>z09 m i (.iter s 0) fun m'=>K (.it i) m'
  | _=>False
 | .nextS x=>opK e x fun x=>
  match x with
  | .it o=>znc m o fun ob=>
   match ob with
   | some (.iter s pos)=>zwb s pos (fun c w=>z09 m o (.iter s (pos+w)) fun m'=>K (.tup [.d (.bool true),.d (.int .i64 pos),.d (.int .i32 c)]) m') (K (.tup [.d (.bool false)]) m)
   | _=>False
  | _=>False
 | .extract x i=>opK e x fun x=>
  match x with
  | .tup vs=>yia vs i fun v=>K v m
  | _=>False
 | .call shared imm f args=>opK e f fun f=>yc9 e args fun vs=>callW E cx slot shared imm (zts f) vs m K
 | .storeR n a x rs=>opK e a fun a=>opK e x fun x=>yil e rs fun vs=>Chk (yf1 a vs) (yh3 n m a x fun m'=>K .skip m')
 | .bad=>False
 | .appendZ r zero s n=>opK e s fun s=>opK e n fun n=>
  match s,n with
  | .d .nil,.d (.int .i64 n)=>zcp (0<n/\zero.length=r.sz/\n.toNat*r.by_<=140737488355328/\n.toNat<=140737488355328)
   (yju cx slot m fun i=>z09 m i (.row r.wr r.t r.sz n.toNat (List.replicate n.toNat zero).flatten) fun m'=>K (.ref i 0 n.toNat n.toNat) m')
  | _,_=>False
 | .callB imm f args b=>∃p,zq0 (fun m=>zlw E cx slot true imm (zts (f.ev e)) (evs e args) m) m (get e b)=some p/\K p.1 p.2
 | .callR imm f args rs=>opK e f fun f=>yc9 e args fun vs=>yil e rs fun ws=>callW E cx slot true imm (zts f) vs m fun v m'=>Chk (z86 m m' ws) (K v m')
 | .len k x=>opK e x fun x=>yvn m k x fun n=>K (.d (.int .i64 (n:Int))) m
 | .append r s x=>opK e s fun s=>opK e x fun x=>z6f m x fun k ds=>zxi cx slot r m k ds s K
 | .appendF r s x=>opK e s fun s=>opK e x fun x=>z6f m x fun k ds=>zxi cx slot r m k ds s fun v m'=>ziu false m' v fun d=>K (.d d) m'
 | .strB x=>opK e x fun x=>
  match x with
  | .d (.list 1 [.int .u8 n])=>K (.d (.str [UInt8.ofNat n.toNat])) m
  | _=>False
 | .appendS r s x=>opK e s fun s=>opK e x fun x=>
  match x,s with
  | .d (.str b),.ref o off len top=>zxi cx slot r m b.length (yf3 b) (.ref o off len top) K
  | _,_=>False
 | .copy sz a b=>opK e a fun d=>opK e b fun s=>z6f m s fun k ds=>
  match d with
  | .ref o off len top=>znc m o fun ob=>
   match ob with
   | some (.row true t sz' n xs)=>zcp (n=top/\off+len<=n/\sz'=sz/\ds.length=k*sz)
    (z09 m o (.row true t sz' n (patch xs (off*sz) (ds.take (min k len*sz)))) fun m'=>K (.d (.int .i64 (min k len:Nat))) m')
   | _=>False
  | _=>False
 | .minmax mx args=>yc9 e args fun vs=>yeb mx vs fun d=>K (.d d) m
 | .clear zero x=>opK e x fun x=>ztt (yf4 zero m x) fun m'=>K .skip m'
theorem yfr {cx:Cx} {slot:Nat} {e:Env} {m:Mem} {op:COp} {K:V->Mem->Prop} (h:zlo E cx slot e m op K):∃p,zcu E cx slot e m op=some p/\K p.1 p.2:=by
 cases op with
 | mv x=>simp only [zlo,zce] at h;exact⟨(_,_),rfl,h⟩
 | ownNil r=>simp only [zlo,zo9,zen] at h;exact⟨(_,_),rfl,h⟩
 | pick c a b=>
  simp only [zlo,zce] at h
  simp only [zcu]
  split at h
  ·rename_i t ht
   rw [ht]
   refine⟨(if t then a.ev e else b.ev e,m),rfl,?_⟩
   cases t with
   | true=>exact h.yes rfl
   | false=>exact h.no rfl
  ·exact h.elim
 | alloc t cs=>simp only [zlo,z16,zo9,zen] at h;exact⟨(_,_),rfl,h⟩
 | box t x=>
  simp only [zlo,zce] at h
  obtain⟨cs,h1,h2⟩:=z3e _ _ h
  simp only [zo9,zen] at h2
  exact⟨(_,_),by simp only [zcu,h1],h2⟩
 | build zero parts=>
  simp only [zlo,z16,yb2] at h
  obtain⟨cs,h1,h2⟩:=yge _ _ _ h
  rw [yjz] at h2
  exact⟨(_,_),by simp only [zcu,h1];rfl,h2⟩
 | mkList sz n parts=>
  simp only [zlo,zl4] at h
  obtain⟨cs,h1,h2⟩:=zyk _ _ _ _ h
  exact⟨(_,_),by simp only [zcu,h1];rfl,h2⟩
 | mkListD sz n parts=>
  simp only [zlo,zl4] at h
  obtain⟨hc,h⟩:=h
  obtain⟨cs,h1,h2⟩:=zyk _ _ _ _ h
  exact⟨(_,_),by simp only [zcu,hc,if_true,h1];rfl,h2⟩
 | mkRow r n parts=>
  simp only [zlo,zl4] at h
  obtain⟨cs,h1,h2⟩:=zyk _ _ _ _ h
  simp only [zo9,zen] at h2
  exact⟨(_,_),by simp only [zcu,h1];rfl,h2⟩
 | load n a=>
  simp only [zlo,zce] at h
  obtain⟨v,h1,h2⟩:=ygy _ _ _ _ h
  exact⟨(_,_),by simp only [zcu,h1];rfl,h2⟩
 | store n a x=>
  simp only [zlo,zce] at h
  obtain⟨v,h1,h2⟩:=yc1 _ _ _ _ _ h
  exact⟨(_,_),by simp only [zcu,h1];rfl,h2⟩
 | nilCheck x=>
  simp only [zlo,zce] at h
  simp only [zcu]
  split at h
  ·rename_i hx;rw [hx];exact⟨(_,_),rfl,h⟩
  ·rename_i hx;rw [hx];exact⟨(_,_),rfl,h⟩
  ·rename_i hx;rw [hx];exact⟨(_,_),rfl,h⟩
  ·rename_i hx;rw [hx]
   rw [zdl] at h
   split at h
   ·rename_i hl;exact⟨(_,_),by simp only [z98,hl];rfl,h⟩
   ·rename_i hl;exact⟨(_,_),by simp [z98,hl,h.need],h.go⟩
   ·exact h.elim
  ·exact h.elim
 | bin op x y=>
  simp only [zlo,zce] at h
  obtain⟨v,h1,h2⟩:=yq9 _ _ _ _ h
  exact⟨(_,_),by simp only [zcu,h1];rfl,h2⟩
 | eqv ks neg x y=>
  simp only [zlo,zce] at h
  obtain⟨v,h1,h2⟩:=yrj _ _ _ _ h
  cases neg<;>exact⟨(_,_),by simp only [zcu,h1];rfl,h2⟩
 | un op x=>
  simp only [zlo,zce] at h
  simp only [zcu]
  split at h
  ·rename_i hx;rw [hx];exact⟨(_,_),rfl,h⟩
  ·rename_i hx;rw [hx];exact⟨(_,_),rfl,h.go⟩
  ·exact h.elim
 | conv k x=>
  simp only [zlo,zce] at h
  simp only [zcu]
  split at h
  ·rename_i hx;rw [hx];exact⟨(_,_),rfl,h.go⟩
  ·exact h.elim
 | mkFunc f first caps=>simp only [zlo,zl4] at h;exact⟨(_,_),rfl,h⟩
 | makeRow r zero n=>
  simp only [zlo,zce] at h
  simp only [zcu]
  split at h
  ·rename_i hx;rw [hx]
   obtain⟨⟨h1,h2,h3,h4⟩,h5⟩:=h
   simp only [zo9,zen] at h5
   exact⟨(_,_),if_pos ⟨h1,h2,by simp [z1t,h3,h4]⟩,h5⟩
  ·exact h.elim
 | sliceS x lo hi=>
  simp only [zlo,zce,opK?_eq] at h
  simp only [zcu]
  split at h
  ·rename_i hx;rw [hx]
   obtain⟨p,h1,h2⟩:=zuu _ _ _ _ h
   obtain⟨l,hh⟩:=p
   simp only [h1]
   exact⟨(_,_),rfl,h2⟩
  ·exact h.elim
 | slice sz x lo hi mx=>
  simp only [zlo,zce,opK?_eq] at h
  obtain⟨v,h1,h2⟩:=ym2 _ _ _ _ _ _ _ h
  exact⟨(_,_),by simp only [zcu,h1];rfl,h2⟩
 | fieldAddr off x=>
  simp only [zlo,zce] at h
  obtain⟨v,h1,h2⟩:=yg3 _ _ _ _ h
  exact⟨(_,_),by simp only [zcu,h1];rfl,h2⟩
 | field off n x=>
  simp only [zlo,zce] at h
  obtain⟨v,h1,h2⟩:=yhb _ _ _ _ h
  exact⟨(_,_),by simp only [zcu,h1];rfl,h2⟩
 | idxAddr sz x i=>
  simp only [zlo,zce] at h
  obtain⟨v,h1,h2⟩:=yd1 _ _ _ _ _ h
  exact⟨(_,_),by simp only [zcu,h1];rfl,h2⟩
 | idxAddrA len sz x i=>
  simp only [zlo,zce] at h
  simp only [zcu]
  split at h
  ·rename_i hx;rw [hx]
   obtain⟨h0,h⟩:=h
   obtain⟨v,h1,h2⟩:=yg3 _ _ _ _ h
   simp only [asI,if_pos h0,h1]
   exact⟨(_,_),rfl,h2⟩
  ·exact h.elim
 | idxS x i=>
  simp only [zlo,zce] at h
  simp only [zcu]
  split at h
  ·rename_i hx hi;rw [hx,hi]
   obtain⟨h0,h⟩:=h
   obtain⟨b,h1,h2⟩:=h.got
   simp only [asI,if_pos h0,h1]
   exact⟨(_,_),rfl,h2⟩
  ·exact h.elim
 | idxA len sz n x i=>
  simp only [zlo,zce] at h
  simp only [zcu]
  split at h
  ·rename_i hx;rw [hx]
   obtain⟨h0,h⟩:=h
   obtain⟨v,h1,h2⟩:=yhb _ _ _ _ h
   simp only [asI,if_pos h0,h1]
   exact⟨(_,_),rfl,h2⟩
  ·exact h.elim
 | mkMap=>simp only [zlo,zo9,zen] at h;exact⟨(_,_),rfl,h⟩
 | lookup kk zero ok x key=>
  simp only [zlo,zce] at h
  obtain⟨v,h1,h2⟩:=yiq h
  exact⟨(_,_),by simp only [zcu,h1];rfl,h2⟩
 | mapSet kk x key v=>
  simp only [zlo,zce] at h
  obtain⟨m',h1,h2⟩:=z61 h
  exact⟨(_,_),by simp only [zcu,h1];rfl,h2⟩
 | mapSetR kk x key v rs=>
  simp only [zlo,zce,z15] at h
  obtain⟨hc,h⟩:=h
  obtain⟨m',h1,h2⟩:=z61 h
  exact⟨(_,_),by simp only [zcu,if_pos hc,h1];rfl,h2⟩
 | callK imm f args=>
  simp only [zlo,zce,zl4] at h
  obtain⟨⟨v,m'⟩,h1,hc,h2⟩:=callW_ok h
  exact⟨(v,m),by simp only [zcu,h1,if_pos hc],h2⟩
 | callQ f args=>
  simp only [zlo,zce,zl4] at h
  obtain⟨v,h1,h2⟩:=h.got
  exact⟨(v,m),by simp only [zcu,h1];rfl,h2⟩
 | callU b f args=>
  simp only [zlo,zce,zl4] at h
  obtain⟨v,m',h1,h2⟩:=h.got
  exact⟨(v,m'),by simp only [zcu,h1],h2⟩
 | callN f args=>
  simp only [zlo,zce,zl4] at h
  simp only [zcu]
  split at h
  ·rename_i hf;rw [hf]
   obtain⟨hc,h⟩:=h
   obtain⟨p,h1,h2⟩:=callW_ok h
   exact⟨p,by simp only [hc,if_true];exact h1,h2⟩
  ·exact h.elim
 | callD f args=>
  simp only [zlo,zce,zl4] at h
  simp only [zcu]
  split at h
  ·rename_i hf;rw [hf]
   obtain⟨hc,h⟩:=h
   obtain⟨p,h1,h2⟩:=callW_ok h
   exact⟨p,by simp only [hc,if_true];exact h1,h2⟩
  ·exact h.elim
 | nilEq kd neg x=>
  simp only [zlo,zce] at h
  obtain⟨k,b,h1,hc,h2⟩:=yr1 h
  exact⟨(_,_),by simp only [zcu,h1];exact if_pos (Nat.eq_of_beq_eq_true hc),h2⟩
 | loadD n a=>
  simp only [zlo,zce] at h
  simp only [zcu]
  split at h
  ·rename_i ha;rw [ha]
   obtain⟨v,h1,h2⟩:=zyt _ _ _ _ h
   exact⟨(_,_),by simp only [h1];rfl,h2⟩
  ·exact h.elim
 | idxAddrD sz x i=>
  simp only [zlo,zce] at h
  simp only [zcu]
  split at h
  ·rename_i hx;rw [hx]
   split at h
   ·rename_i hi;rw [hi]
    exact⟨(_,_),if_pos h.need,h.go⟩
   ·exact h.elim
  ·exact h.elim
 | appendIn r s x=>
  simp only [zlo,zce] at h
  obtain⟨⟨k,ds⟩,h1,h2⟩:=zx8 _ _ _ h
  simp only [zcu,zxh,h1]
  split at h2
  ·rename_i hs;rw [hs]
   rw [zdl] at h2
   split at h2
   ·rename_i hl
    obtain⟨hc,h3⟩:=h2
    rw [zen] at h3
    exact⟨(_,_),by simp only [hl];exact if_pos hc,h3⟩
   ·exact h2.elim
  ·exact h2.elim
 | rangeS x=>
  simp only [zlo,zce] at h
  simp only [zcu]
  split at h
  ·rename_i hx;rw [hx]
   simp only [zo9,zen] at h
   exact⟨(_,_),rfl,h⟩
  ·exact h.elim
 | nextS x=>
  simp only [zlo,zce] at h
  simp only [zcu]
  split at h
  ·rename_i hx;rw [hx]
   rw [zdl] at h
   split at h
   ·rename_i s pos hl
    simp only [zen] at h
    simp only [yo2,hl]
    by_cases hp:pos<s.length
    ·exact⟨(_,_),if_pos hp,h.yes hp⟩
    ·exact⟨(_,_),if_neg hp,h.no hp⟩
   ·exact h.elim
  ·exact h.elim
 | extract x i=>
  simp only [zlo,zce] at h
  simp only [zcu]
  split at h
  ·rename_i hx;rw [hx]
   obtain⟨v,h1,h2⟩:=h.got
   exact⟨(_,_),by simp only [h1];rfl,h2⟩
  ·exact h.elim
 | call shared imm f args=>
  simp only [zlo,zce,zl4] at h
  exact callW_ok h
 | storeR n a x rs=>
  simp only [zlo,zce,z15] at h
  obtain⟨hc,h⟩:=h
  obtain⟨v,h1,h2⟩:=yc1 _ _ _ _ _ h
  exact⟨(_,_),by simp only [zcu,if_pos hc,h1];rfl,h2⟩
 | callB imm f args b=>exact h
 | bad=>exact h.elim
 | appendZ r zero s n=>
  simp only [zlo,zce] at h
  simp only [zcu]
  split at h
  ·rename_i hs hn;rw [hs,hn]
   obtain⟨⟨h1,h2,h3,h4⟩,h5⟩:=h
   rw [zo9,zen] at h5
   exact⟨(_,_),if_pos ⟨h1,h2,by simp [z1t,h3,h4]⟩,h5⟩
  ·exact h.elim
 | callR imm f args rs=>
  simp only [zlo,zce,zl4,z15] at h
  obtain⟨⟨v,m'⟩,h1,hc,h2⟩:=callW_ok h
  exact⟨(v,m'),by simp only [zcu,h1,if_pos hc],h2⟩
 | len k x=>
  simp only [zlo,zce] at h
  obtain⟨v,h1,h2⟩:=yru _ _ _ _ h
  exact⟨(_,_),by simp only [zcu,h1];rfl,h2⟩
 | append r s x=>
  simp only [zlo,zce] at h
  obtain⟨⟨k,ds⟩,h1,h2⟩:=zx8 _ _ _ h
  simp only [zcu,zwd,h1]
  exact zwc _ _ _ _ _ _ _ _ h2
 | appendF r s x=>
  simp only [zlo,zce] at h
  obtain⟨⟨k,ds⟩,h1,h2⟩:=zx8 _ _ _ h
  obtain⟨⟨v,m'⟩,h3,h4⟩:=zwc _ _ _ _ _ _ _ _ h2
  obtain⟨d,h5,h6⟩:=zux _ _ _ _ h4
  exact⟨(_,_),by simp only [zcu,zwd,h1,h3,h5];rfl,h6⟩
 | strB x=>
  simp only [zlo,zce] at h
  simp only [zcu]
  split at h
  ·rename_i hx;rw [hx];exact⟨(_,_),rfl,h⟩
  ·exact h.elim
 | appendS r s x=>
  simp only [zlo,zce] at h
  simp only [zcu]
  split at h
  ·rename_i hx hs;rw [hx,hs]
   simp only [zxj]
   exact zwc _ _ _ _ _ _ _ _ h
  ·exact h.elim
 | copy sz a b=>
  simp only [zlo,zce] at h
  obtain⟨⟨k,ds⟩,h1,h2⟩:=zx8 _ _ _ h
  simp only [zcu,yob,h1]
  split at h2
  ·rename_i hx;rw [hx]
   rw [zdl] at h2
   split at h2
   ·rename_i hl;simp only [hl]
    rw [zen] at h2
    exact⟨(_,_),if_pos h2.need,h2.go⟩
   ·exact h2.elim
  ·exact h2.elim
 | minmax mx args=>
  simp only [zlo,zl4] at h
  obtain⟨v,h1,h2⟩:=yis _ _ _ h
  exact⟨(_,_),by simp only [zcu,h1];rfl,h2⟩
 | clear zero x=>
  simp only [zlo,zce] at h
  obtain⟨v,h1,h2⟩:=h.got
  exact⟨(_,_),by simp only [zcu,h1];rfl,h2⟩
def ysv (E:Oracle) (cx:Cx) (e:Env) (m:Mem) (o:CO) (K:V->Mem->Prop):Prop:=
 match o with
 | ⟨dst,none,op⟩=>zlo E cx (dst.getD 0) e m op K
 | ⟨dst,some (t,want),op⟩=>yoj e t fun g=>
  match g with
  | .d (.bool b)=>(match want with
   | true=>Br b (zlo E cx (dst.getD 0) e m op K) (K .skip m)
   | false=>Br b (K .skip m) (zlo E cx (dst.getD 0) e m op K))
  | .skip=>K .skip m
  | _=>False
theorem yp9 {cx:Cx} {e:Env} {m:Mem} {o:CO} {K:V->Mem->Prop} (h:ysv E cx e m o K):∃p,zet E cx e m o=some p/\K p.1 p.2:=by
 obtain⟨dst,guard,op⟩:=o
 cases guard with
 | none=>exact yfr h
 | some g=>
  obtain⟨t,want⟩:=g
  simp only [ysv,zw4] at h
  simp only [zet]
  split at h
  ·rename_i b hb
   rw [hb]
   cases want<;>cases b
   ·exact yfr (h.no rfl)
   ·exact⟨(_,_),rfl,h.yes rfl⟩
   ·exact⟨(_,_),rfl,h.no rfl⟩
   ·exact yfr (h.yes rfl)
  ·rename_i hb;rw [hb];exact⟨(_,_),rfl,h⟩
  ·exact h.elim
def wpOps (E:Oracle) (cx:Cx):List CO->Env->Mem->(Env->Mem->Prop)->Prop
 | [],e,m,K=>K e m
 | o::r,e,m,K=>ysv E cx e m o fun v m'=>put?K e o.dst v fun e'=>wpOps E cx r e' m' K
theorem wpOps_ok {cx:Cx}:∀(os:List CO) (e:Env) (m:Mem) (K:Env->Mem->Prop),wpOps E cx os e m K->∃p,zjo E cx os e m=some p/\K p.1 p.2
 | [],e,m,K,h=>⟨(e,m),rfl,h⟩
 | o::r,e,m,K,h=>by
  obtain⟨⟨v,m'⟩,h1,h2⟩:=yp9 h
  rw [put?K_eq] at h2
  obtain⟨p,h3,h4⟩:=wpOps_ok r _ _ K h2
  exact⟨p,by simp only [zjo,h1];exact h3,h4⟩
def ywc (K1:Env->Mem->Prop) (K:Ex->Env->Mem->Prop) (x:Ex) (e:Env) (m:Mem):Prop:=
 match x with
 | .normal=>K1 e m
 | .exit i=>K (.exit i) e m
 | .ret=>K .ret e m
def yqh (id:Nat) (K:Ex->Env->Mem->Prop) (x:Ex) (e:Env) (m:Mem):Prop:=
 match x with
 | .normal=>K .normal e m
 | .exit j=>(match Nat.beq j id with
  | true=>K .normal e m
  | false=>K (.exit j) e m)
 | .ret=>K .ret e m
def yqr (cx:Cx) (i:Id) (e:Env) (K:Ex->Env->Mem->Prop) (m':Mem):Prop:=znc m' i fun o=>
 match o with
 | some (.loop _ _ _ _ _ false _ j)=>z57 cx.nx m' fun mb=>
  (match yrw cx.nx (idsAll mb) with
  | true=>z09 mb i .gone fun m2=>
   (match j with
   | none=>K .normal e m2
   | some (.exit id)=>K (.exit id) e m2
   | some .ret=>K .ret e m2)
  | false=>False)
 | _=>False
def wpC (E:Oracle) (cx:Cx):C->Env->Mem->(Ex->Env->Mem->Prop)->Prop
 | .skip,e,m,K=>K .normal e m
 | .label,e,m,K=>K .normal e m
 | .reg _ ops kill,e,m,K=>wpOps E cx ops e m fun e' m'=>zu9 kill e' fun e''=>K .normal e'' m'
 | .regC ops kill chk,e,m,K=>wpOps E cx ops e m fun e' m'=>Chk (yrg e' chk) (zu9 kill e' fun e''=>K .normal e'' m')
 | .seq a b,e,m,K=>wpC E cx a e m (ywc (fun e' m'=>wpC E cx b e' m' K) K)
 | .cond c a b,e,m,K=>opK e c fun v=>
  match v with
  | .d (.bool t)=>Br t (wpC E cx a e m K) (wpC E cx b e m K)
  | _=>False
 | .block id c,e,m,K=>wpC E cx c e m (yqh id K)
 | .loop live c,e,m,K=>yly e live fun e'=>yd6 m fun ks=>gcK ks e' m fun m'=>zak E cx live ks c e' m' K
 | .exit id,e,m,K=>K (.exit id) e m
 | .ret,e,m,K=>K .ret e m
 | .bad,_,_,_=>False
 | .scope c,e,m,K=>wpC E cx c e m K
 | .rangeM pre it x out nxt pair live ops kill code,e,m,K=>wpOps E cx pre e m fun e1 m1=>
  ∃x' e' m',zsx (fun e m=>(zjo E cx ops e m).bind fun q=>evC E cx code (zd0 kill q.1) q.2) cx it x out nxt pair live e1 m1=some (x',e',m')/\K x' e' m'
 | .rangeFn slot f ps a b,e,m,K=>yju cx slot m fun i=>z09 m i (.loop e ps a b cx.lv false false none) fun m1=>yd6 m1 fun ks=>
  match yrw cx.nx ks with
  | true=>opK e f fun fv=>
   (match fv with
   | .fn g first caps=>In E cx.nx g (first ++[.yld i]++caps) m1 fun _ m'=>yqr cx i e K m'
   | _=>False)
  | false=>False
theorem wpC_ok {cx:Cx}:∀(c:C) (e:Env) (m:Mem) (K:Ex->Env->Mem->Prop),wpC E cx c e m K->∃x e' m',evC E cx c e m=some (x,e',m')/\K x e' m'
 | .rangeM pre it x out nxt pair live ops kill code,e,m,K,h=>by
  obtain⟨p,h1,x',e',m',h2,h3⟩:=wpOps_ok pre e m _ h
  exact⟨x',e',m',by simp only [evC,h1,Option.bind_some,h2],h3⟩
 | .skip,e,m,K,h=>⟨_,_,_,rfl,h⟩
 | .label,e,m,K,h=>⟨_,_,_,rfl,h⟩
 | .exit _,e,m,K,h=>⟨_,_,_,rfl,h⟩
 | .ret,e,m,K,h=>⟨_,_,_,rfl,h⟩
 | .bad,_,_,_,h=>h.elim
 | .scope c,e,m,K,h=>by
  obtain⟨x,e',m',h1,h2⟩:=wpC_ok c e m K h
  exact⟨x,e',m',by simp only [evC];exact h1,h2⟩
 | .reg _ ops kill,e,m,K,h=>by
  obtain⟨p,h1,h2⟩:=wpOps_ok ops e m _ h
  rw [zs0] at h2
  exact⟨_,_,_,by simp only [evC,h1];rfl,h2⟩
 | .regC ops kill chk,e,m,K,h=>by
  obtain⟨p,h1,hc,h2⟩:=wpOps_ok ops e m _ h
  rw [zs0] at h2
  exact⟨_,_,_,by simp only [evC,h1,Option.bind_some];exact if_pos hc,h2⟩
 | .seq a b,e,m,K,h=>by
  obtain⟨x,e',m',h1,h2⟩:=wpC_ok a e m _ h
  cases x with
  | normal=>
   obtain⟨x2,e2,m2,h3,h4⟩:=wpC_ok b e' m' K h2
   exact⟨x2,e2,m2,by simp only [evC,h1];exact h3,h4⟩
  | _=>exact⟨_,_,_,by simp only [evC,h1],h2⟩
 | .cond c a b,e,m,K,h=>by
  simp only [wpC,zce] at h
  simp only [evC]
  split at h
  ·rename_i t ht
   rw [ht]
   cases t with
   | true=>
    obtain⟨x2,e2,m2,h3,h4⟩:=wpC_ok a e m K (h.yes rfl)
    exact⟨x2,e2,m2,by simpa using h3,h4⟩
   | false=>
    obtain⟨x2,e2,m2,h3,h4⟩:=wpC_ok b e m K (h.no rfl)
    exact⟨x2,e2,m2,by simpa using h3,h4⟩
  ·exact h.elim
 | .block id c,e,m,K,h=>by
  obtain⟨x,e',m',h1,h2⟩:=wpC_ok c e m _ h
  cases x with
  | exit j=>
   simp only [yqh] at h2
   cases hb:Nat.beq j id with
   | true=>
    rw [hb] at h2
    exact⟨.normal,e',m',by simp only [evC,h1];exact if_pos (Nat.eq_of_beq_eq_true hb),h2⟩
   | false=>
    rw [hb] at h2
    have:j≠id:=fun hh=>by rw [hh,Nat.beq_refl] at hb;cases hb
    exact⟨.exit j,e',m',by simp only [evC,h1];exact if_neg this,h2⟩
  | _=>exact⟨_,_,_,by simp only [evC,h1],h2⟩
 | .loop live c,e,m,K,h=>by
  simp only [wpC,z9i,zyh,ykt] at h
  obtain⟨x,e',m',h1,h2⟩:=h.got
  exact⟨x,e',m',by simp only [evC,h1],h2⟩
 | .rangeFn slot f ps a b,e,m,K,h=>by
  simp only [wpC,zo9,zen,zyh,z30,zce] at h
  simp only [evC]
  split at h
  ·rename_i hl
   rw [if_pos hl]
   split at h
   ·rename_i hf
    rw [hf]
    obtain⟨v,m',h1,h2⟩:=h.got
    simp only [h1]
    simp only [yqr,zdl,zxr,z30,zen] at h2
    split at h2
    ·rename_i hlk
     simp only [hlk]
     split at h2
     ·rename_i hl2
      simp only [if_pos hl2]
      split at h2<;>exact⟨_,_,_,rfl,h2⟩
     ·exact h2.elim
    ·exact h2.elim
   ·exact h.elim
  ·exact h.elim
def yue (m:Mem) (e:Env) (r:RV) (K:V->Prop):Prop:=
 match r with
 | .tmp t=>yoj e t K
 | .cell t n=>yoj e t fun a=>yow n m a K
theorem ymk {m:Mem} {e:Env} {r:RV} {K:V->Prop} (h:yue m e r K):∃v,yud m e r=some v/\K v:=by
 cases r with
 | tmp t=>simp only [yue,zw4] at h;exact⟨_,rfl,h⟩
 | cell t n=>simp only [yue,zw4] at h;exact ygy _ _ _ _ h
def ysf (m:Mem) (e:Env):List RV->(List V->Prop)->Prop
 | [],K=>K []
 | r::q,K=>yue m e r fun v=>ysf m e q fun vs=>K (v::vs)
theorem yhu {m:Mem} {e:Env}:∀(l:List RV) (K:List V->Prop),ysf m e l K->∃vs,z5s m e l=some vs/\K vs
 | [],K,h=>⟨[],rfl,h⟩
 | r::q,K,h=>by
  obtain⟨v,h1,h2⟩:=ymk h
  obtain⟨vs,h3,h4⟩:=yhu q _ h2
  exact⟨v::vs,by simp only [z5s,h1,h3],h4⟩
def z2d (m:Mem) (e:Env) (rs:List RV) (K:V->Prop):Prop:=
 match rs with
 | []=>K (.tup [])
 | [r]=>yue m e r K
 | r::r2::rs=>ysf m e (r::r2::rs) fun vs=>K (.tup vs)
theorem z4j {m:Mem} {e:Env} {rs:List RV} {K:V->Prop} (h:z2d m e rs K):∃v,results m e rs=some v/\K v:=by
 unfold z2d at h
 split at h
 ·exact⟨_,rfl,h⟩
 ·exact ymk h
 ·obtain⟨vs,h1,h2⟩:=yhu _ _ h
  exact⟨_,by simp only [results,h1];rfl,h2⟩
def yvj (rs:List RV) (K:V->Mem->Prop) (x:Ex) (e:Env) (m:Mem):Prop:=
 match x with
 | .normal=>z2d m e rs fun v=>K v m
 | .ret=>z2d m e rs fun v=>K v m
 | .exit _=>False
def yu4:Nat->List V->(Env->Prop)->Prop
 | _,[],K=>K []
 | i,v::r,K=>yu4 (i+1) r fun e=>K ((i,v)::e)
theorem yl0:∀(i:Nat) (l:List V) (K:Env->Prop),yu4 i l K=K (params i l)
 | _,[],_=>rfl
 | i,v::r,K=>by simp only [yu4,params,yl0 (i+1) r]
variable {Γ : Nat -> Option CF} {X : Extern}
def yn5 (E:Oracle) (lv:Nat) (cf:CF) (args:List V) (m:Mem) (K:V->Mem->Prop):Prop:=yu4 0 args fun e=>wpC E ⟨lv,lv+1⟩ cf.body e m (yvj cf.results K)
theorem In.enter (hE:Lim Γ X E) {lv f:Nat} {args:List V} {m:Mem} {K:V->Mem->Prop} {cf:CF} (hX:X f=none) (hc:Γ f=some cf) (h:yn5 E lv cf args m K):In E lv f args m K:=by
 simp only [yn5,yl0] at h
 obtain⟨x,e',m',h1,h2⟩:=wpC_ok _ _ _ _ h
 refine⟨?_⟩
 rw [hE.fix]
 simp only [step,hX,hc,h1]
 cases x with
 | normal=>
  simp only [yvj] at h2
  obtain⟨v,h3,h4⟩:=z4j h2
  exact⟨v,m',by simp only [h3];rfl,h4⟩
 | ret=>
  simp only [yvj] at h2
  obtain⟨v,h3,h4⟩:=z4j h2
  exact⟨v,m',by simp only [h3];rfl,h4⟩
 | exit i=>exact h2.elim
theorem Fc.enter (hE:Lim Γ X E) {f:Nat} {args:List V} {r:V} {cf:CF} (hX:X f=none) (hc:Γ f=some cf) (h:yn5 E 0 cf args [] fun v m'=>yp6 m' v fun d=>Ret d r):Fc E f args r:=by
 obtain⟨v,m',h1,h2⟩:=(In.enter hE hX hc h).got
 obtain⟨d,h3,h4⟩:=yh7 _ _ _ h2
 exact⟨v,m',h1,by rw [h3,h4.eq]⟩
theorem Fc.extern (hE:Lim Γ X E) {f:Nat} {args:List V} {r v:V} {m':Mem} {x:List V->Mem->Option (V×Mem)} (hX:X f=some x) (h:x args []=some (v,m')) (ht:yfm m' v=some r):Fc E f args r:=
 ⟨v,m',by rw [hE.fix];simp only [step,hX,h];rfl,ht⟩
theorem In.extern (hE:Lim Γ X E) {lv f:Nat} {args:List V} {m:Mem} {K:V->Mem->Prop} {v:V} {m':Mem} {x:List V->Mem->Option (V×Mem)} (hX:X f=some x) (h:x args m=some (v,m')) (hk:K v m'):In E lv f args m K:=
 ⟨v,m',by rw [hE.fix];simp only [step,hX,h];rfl,hk⟩
theorem zai.of {f:Nat} {args:List V} {r:V} {K:V->Prop} (h:Fc E f args r) (hk:K r):zai E f args K:=⟨r,h,hk⟩
def yad (E:Oracle) (cx:Cx) (live:List Nat) (keep:List Id) (body:C) (K:Ex->Env->Mem->Prop) (x:Ex) (e:Env) (m:Mem):Prop:=
 match x with
 | .normal=>yly e live fun e2=>gcK keep e2 m fun m2=>zak E cx live keep body e2 m2 K
 | .exit i=>K (.exit i) e m
 | .ret=>K .ret e m
theorem zak.step (hE:Lim Γ X E) {cx:Cx} {live:List Nat} {keep:List Id} {body:C} {e:Env} {m:Mem} {K:Ex->Env->Mem->Prop} (h:wpC E cx body e m (yad E cx live keep body K)):zak E cx live keep body e m K:=by
 obtain⟨x,e',m',h1,h2⟩:=wpC_ok _ _ _ _ h
 refine⟨?_⟩
 rw [hE.fix]
 simp only [Go.Evl.step,h1]
 cases x with
 | normal=>
  simp only [yad,z9i,ykt] at h2
  exact h2.got
 | exit i=>exact⟨_,_,_,rfl,h2⟩
 | ret=>exact⟨_,_,_,rfl,h2⟩
theorem zak.mono {cx:Cx} {live:List Nat} {keep:List Id} {body:C} {e:Env} {m:Mem} {K K':Ex->Env->Mem->Prop} (h:zak E cx live keep body e m K) (hk:∀x e m,K x e m->K' x e m):zak E cx live keep body e m K':=by
 obtain⟨x,e',m',h1,h2⟩:=h.got
 exact⟨x,e',m',h1,hk _ _ _ h2⟩
def yu6:List Nat->List V->Env->(Env->Prop)->Prop
 | t::r,v::s,e,K=>yt7 e t v fun e'=>yu6 r s e' K
 | [],_,e,K=>K e
 | _::_,[],e,K=>K e
theorem ynr:∀(ps:List Nat) (vs:List V) (e:Env) (K:Env->Prop),yu6 ps vs e K=K (ysw ps vs e)
 | [],[],e,K=>rfl
 | [],_::_,e,K=>rfl
 | _::_,[],e,K=>rfl
 | t::r,v::s,e,K=>by simp only [yu6,ysw,yez,ynr r s]
def yhx (o:Id) (ks:List Id) (K:V->Mem->Prop) (x:Ex) (_:Env) (m2:Mem):Prop:=znc m2 o fun ob=>
 match ob with
 | some (.loop e' ps' a' b' lv' true false _)=>
  (match x with
  | .normal=>z09 m2 o (.loop e' ps' a' b' lv' false false none) fun m3=>gcK ks [] m3 fun m4=>K (.d (.bool true)) m4
  | .exit id=>z09 m2 o (.loop e' ps' a' b' lv' false true (some (.exit id))) fun m3=>K (.d (.bool false)) m3
  | .ret=>z09 m2 o (.loop e' ps' a' b' lv' false true (some .ret)) fun m3=>K (.d (.bool false)) m3)
 | _=>False
def yhy (E:Oracle) (nx:Nat) (o:Id) (lv:Nat) (b:C) (ks:List Id) (K:V->Mem->Prop) (x:Ex) (e1:Env) (m1:Mem):Prop:=
 match x with
 | .normal=>znc m1 o fun ob=>
  (match ob with
  | some (.loop e' ps' a' b' lv' false false j')=>z09 m1 o (.loop e' ps' a' b' lv' true false j') fun m2=>wpC E ⟨lv,nx⟩ b e1 m2 (yhx o ks K)
  | _=>False)
 | _=>False
def yqt (E:Oracle) (nx:Nat) (o:Id) (args:List V) (m:Mem) (K:V->Mem->Prop):Prop:=znc m o fun ob=>
 match ob with
 | some (.loop e ps a b lv false false _)=>
  (match Nat.beq ps.length args.length with
  | true=>yu6 ps args e fun e0=>yd6 m fun ks=>wpC E ⟨lv,nx⟩ a e0 m (yhy E nx o lv b ks K)
  | false=>False)
 | _=>False
theorem Rnd.enter (hE:Lim Γ X E) {nx:Nat} {o:Id} {args:List V} {m:Mem} {K:V->Mem->Prop} (h:yqt E nx o args m K):Rnd E nx o args m K:=by
 refine⟨?_⟩
 rw [hE.fix]
 simp only [yqt,zdl] at h
 simp only [Go.Evl.step]
 split at h
 ·rename_i hl
  simp only [hl]
  split at h
  ·rename_i hlen
   rw [if_pos (Nat.eq_of_beq_eq_true hlen)]
   simp only [ynr,zyh] at h
   obtain⟨x,e1,m1,h1,h2⟩:=wpC_ok _ _ _ _ h
   simp only [h1]
   cases x with
   | normal=>
    simp only [yhy,zdl] at h2
    split at h2
    ·rename_i hl1
     simp only [hl1]
     rw [zen] at h2
     obtain⟨x,e2,m2,h3,h4⟩:=wpC_ok _ _ _ _ h2
     simp only [h3]
     simp only [yhx,zdl] at h4
     split at h4
     ·rename_i hl2
      simp only [hl2]
      cases x with
      | normal=>
       simp only [zen,ykt] at h4
       exact⟨_,_,rfl,h4⟩
      | exit i=>
       simp only [zen] at h4
       exact⟨_,_,rfl,h4⟩
      | ret=>
       simp only [zen] at h4
       exact⟨_,_,rfl,h4⟩
     ·exact h4.elim
    ·exact h2.elim
   | exit i=>exact h2.elim
   | ret=>exact h2.elim
  ·exact h.elim
 ·exact h.elim
end
end Go.Evl
