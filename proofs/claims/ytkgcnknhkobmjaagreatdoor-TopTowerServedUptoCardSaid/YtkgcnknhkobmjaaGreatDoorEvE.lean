
/-
 The evaluator's limit, and what is to be shown for code to end well.
-/
import Derived.Test.YtkgcnknhkobmjaaGreatDoorEvSyn
namespace Go.Evl
def Le (F G:Oracle):Prop:=∀q r,F q=some r->G q=some r
structure ybk (It:Nat->Oracle) (E:Oracle):Prop where
 up:∀n,Le (It n) (It (n+1))
 lim:∀q r,E q=some r↔∃n,It n q=some r
theorem ybk.le {It:Nat->Oracle} {E:Oracle} (h:ybk It E) {n m:Nat} (hnm:n<=m):Le (It n) (It m):=by
 induction hnm with
 | refl=>exact fun _ _ h=>h
 | step _ ih=>exact fun q r hq=>h.up _ q r (ih q r hq)
structure zbt {α:Type} (It:Nat->Oracle) (E:Oracle) (f:Oracle->Option α):Prop where
 mono:∀F G,Le F G->∀r,f F=some r->f G=some r
 reach:∀r,f E=some r->∃n,f (It n)=some r
section
variable {It : Nat -> Oracle} {E : Oracle} {α β : Type}
theorem zbt.const {f:Oracle->Option α} (h:∀F G,f F=f G):zbt It E f:=
 ⟨fun F G _ _ hr=>(h G F).trans hr,fun _ hr=>⟨0,(h _ E).trans hr⟩⟩
theorem zbt.query (hc:ybk It E) (q:Req):zbt It E (fun F=>F q):=
 ⟨fun _ _ h r hr=>h q r hr,fun r hr=>(hc.lim q r).1 hr⟩
theorem zbt.bind (hc:ybk It E) {f:Oracle->Option α} {k:α->Oracle->Option β} (hf:zbt It E f) (hk:∀a,zbt It E (k a)):zbt It E (fun F=>(f F).bind fun a=>k a F):=by
 refine⟨fun F G h r hr=> ?_,fun r hr=> ?_⟩
 ·obtain⟨a,h1,h2⟩:=Option.bind_eq_some_iff.1 hr
  exact Option.bind_eq_some_iff.2 ⟨a,hf.mono F G h a h1,(hk a).mono F G h r h2⟩
 ·obtain⟨a,h1,h2⟩:=Option.bind_eq_some_iff.1 hr
  obtain⟨n,hn⟩:=hf.reach a h1
  obtain⟨k',hk'⟩:=(hk a).reach r h2
  refine⟨max n k',Option.bind_eq_some_iff.2 ⟨a,hf.mono _ _ (hc.le (Nat.le_max_left _ _)) a hn,(hk a).mono _ _ (hc.le (Nat.le_max_right _ _)) r hk'⟩⟩
theorem zbt.of_eq {f g:Oracle->Option α} (h:∀F,f F=g F) (hg:zbt It E g):zbt It E f:=by
 have:f=g:=funext h
 rw [this];exact hg
theorem zlv {p:Prop} [Decidable p] {f g:Oracle->Option α} (hf:zbt It E f) (hg:zbt It E g):zbt It E (fun F=>if p then f F else g F):=by
 by_cases h:p
 ·exact zbt.of_eq (fun F=>if_pos h) hf
 ·exact zbt.of_eq (fun F=>if_neg h) hg
variable (hc : ybk It E)
include hc
theorem z1x (cx:Cx) (f:V) (args:List V) (m:Mem):zbt It E (fun F=>zhn F cx f args m):=by
 cases f with
 | fn f first caps=>
  refine zbt.of_eq (g:=fun F=>(F (.call cx.nx f (first ++args++caps) m)).bind fun r=>match r with| .val v m'=>some (v,m')|_=>none) (fun F=> ?_) (zbt.bind hc (zbt.query hc _) fun r=>zbt.const fun _ _=>rfl)
  simp only [zhn]
  cases F (.call cx.nx f (first ++args++caps) m) with
  | none=>rfl
  | some r=>cases r<;>rfl
 | yld o=>
  refine zbt.of_eq (g:=fun F=>(F (.round cx.nx o args m)).bind fun r=>match r with| .val v m'=>some (v,m')|_=>none) (fun F=> ?_) (zbt.bind hc (zbt.query hc _) fun r=>zbt.const fun _ _=>rfl)
  simp only [zhn]
  cases F (.round cx.nx o args m) with
  | none=>rfl
  | some r=>cases r<;>rfl
 | _=>exact zbt.const fun _ _=>rfl
theorem zl1 (cx:Cx) (slot:Nat) (shared imm:Bool) (f:V) (args:List V) (m:Mem):zbt It E (fun F=>zks F cx slot shared imm f args m):=by
 unfold zks
 refine zlv (zlv ?_ (zbt.const fun _ _=>rfl)) ?_
 ·refine zbt.of_eq (g:=fun F=>(zhn F cx f args m).bind fun p=>if ziy cx.nx (idsAll (zdu cx.nx p.2)) then znm cx slot cx.nx imm (zdu cx.nx p.2) p.2 p.1 else none) (fun F=> ?_) (zbt.bind hc (z1x hc cx f args m) fun r=>zbt.const fun _ _=>rfl)
  cases zhn F cx f args m<;>rfl
 ·cases f with
  | fn f first caps=>
   dsimp only
   generalize freezeL false m (first ++args++caps)=o
   cases o with
   | none=>exact zbt.const fun _ _=>rfl
   | some ds=>
    refine zbt.of_eq (g:=fun F=>(F (.call 0 f (asV ds) [])).bind fun r=>match r with| .val v m'=>znm cx slot 0 imm m m' v|_=>none) (fun F=> ?_) (zbt.bind hc (zbt.query hc _) fun r=>zbt.const fun _ _=>rfl)
    simp only
    cases F (.call 0 f (asV ds) []) with
    | none=>rfl
    | some r=>cases r<;>rfl
  | _=>exact zbt.const fun _ _=>rfl
theorem yb8 (f:V) (args:List V) (m:Mem):zbt It E (fun F=>zwg F f args m):=by
 cases f with
 | fn f first caps=>
  simp only [zwg]
  refine zlv ?_ (zbt.const fun _ _=>rfl)
  refine zbt.of_eq (g:=fun F=>(F (.call 1 f (renL (number ⟨0,0⟩ 0 0 (reach 0 m 64 (idsL (first ++args++caps)) [])) (first ++args++caps)) (moved (number ⟨0,0⟩ 0 0 (reach 0 m 64 (idsL (first ++args++caps)) [])) m (number ⟨0,0⟩ 0 0 (reach 0 m 64 (idsL (first ++args++caps)) []))))).bind fun r=>match r with
   | .val v m1=>if z90 m1 (moved (number ⟨0,0⟩ 0 0 (reach 0 m 64 (idsL (first ++args++caps)) [])) m (number ⟨0,0⟩ 0 0 (reach 0 m 64 (idsL (first ++args++caps)) [])))&&(ids v).all (fun i=>((number ⟨0,0⟩ 0 0 (reach 0 m 64 (idsL (first ++args++caps)) [])).map (·.2)).elem i) then some (ren (znc (number ⟨0,0⟩ 0 0 (reach 0 m 64 (idsL (first ++args++caps)) []))) v) else none
   | _=>none) (fun F=> ?_) (zbt.bind hc (zbt.query hc _) fun r=>zbt.const fun _ _=>rfl)
  generalize number ⟨0,0⟩ 0 0 (reach 0 m 64 (idsL (first ++args++caps)) [])=σ
  cases F (.call 1 f (renL σ (first ++args++caps)) (moved σ m σ)) with
  | none=>rfl
  | some r=>cases r<;>rfl
 | _=>exact zbt.const fun _ _=>rfl
theorem yb9 (imm:Bool) (f:V) (args:List V) (m:Mem):zbt It E (fun F=>zwh F imm f args m):=by
 cases f with
 | fn f first caps=>
  simp only [zwh]
  refine zlv ?_ (zbt.const fun _ _=>rfl)
  refine zbt.of_eq (g:=fun F=>(F (.call 1 f (renL (number ⟨0,0⟩ 0 0 (reach 0 m 64 (idsL ((first ++args++caps).map (z0f m))) [])) ((first ++args++caps).map (z0f m))) (moved (number ⟨0,0⟩ 0 0 (reach 0 m 64 (idsL ((first ++args++caps).map (z0f m))) [])) m (number ⟨0,0⟩ 0 0 (reach 0 m 64 (idsL ((first ++args++caps).map (z0f m))) []))))).bind fun r=>match r with
   | .val v m1=>
    if imm then
     if ziy 1 (zrf (moved (number ⟨0,0⟩ 0 0 (reach 0 m 64 (idsL ((first ++args++caps).map (z0f m))) [])) m (number ⟨0,0⟩ 0 0 (reach 0 m 64 (idsL ((first ++args++caps).map (z0f m))) []))))&&ziy 1 (idsAll (zdu 1 m1)) then
      match znm ⟨0,1⟩ 0 1 true (zdu 1 m1) m1 v with
      | some (v',m2)=>if(ids v').all (fun i=>((number ⟨0,0⟩ 0 0 (reach 0 m 64 (idsL ((first ++args++caps).map (z0f m))) [])).map (·.2)).elem i) then(zt5 (number ⟨0,0⟩ 0 0 (reach 0 m 64 (idsL ((first ++args++caps).map (z0f m))) [])) m2 (number ⟨0,0⟩ 0 0 (reach 0 m 64 (idsL ((first ++args++caps).map (z0f m))) [])) m).map fun m'=>(ren (znc (number ⟨0,0⟩ 0 0 (reach 0 m 64 (idsL ((first ++args++caps).map (z0f m))) []))) v',m') else none
      | none=>none
     else none
    else if(ids v).all (fun i=>((number ⟨0,0⟩ 0 0 (reach 0 m 64 (idsL ((first ++args++caps).map (z0f m))) [])).map (·.2)).elem i) then(zt5 (number ⟨0,0⟩ 0 0 (reach 0 m 64 (idsL ((first ++args++caps).map (z0f m))) [])) m1 (number ⟨0,0⟩ 0 0 (reach 0 m 64 (idsL ((first ++args++caps).map (z0f m))) [])) m).map fun m'=>(ren (znc (number ⟨0,0⟩ 0 0 (reach 0 m 64 (idsL ((first ++args++caps).map (z0f m))) []))) v,m') else none
   | _=>none) (fun F=> ?_) (zbt.bind hc (zbt.query hc _) fun r=>zbt.const fun _ _=>rfl)
  generalize number ⟨0,0⟩ 0 0 (reach 0 m 64 (idsL ((first ++args++caps).map (z0f m))) [])=σ
  cases F (.call 1 f (renL σ ((first ++args++caps).map (z0f m))) (moved σ m σ)) with
  | none=>rfl
  | some r=>cases r<;>rfl
 | _=>exact zbt.const fun _ _=>rfl
theorem yca (f:V) (args:List V) (m:Mem):zbt It E (fun F=>z1s F f args m):=by
 cases f with
 | fn f first caps=>
  simp only [z1s]
  generalize freezeL true m (first ++args++caps)=o
  cases o with
  | none=>exact zbt.const fun _ _=>rfl
  | some ds=>
   refine zbt.of_eq (g:=fun F=>(F (.call 0 f (asV ds) [])).bind fun r=>match r with| .val v m'=>(if z9x m' v=true then(thaw m' v).map fun v=>(v,m) else none)|_=>none) (fun F=> ?_) (zbt.bind hc (zbt.query hc _) fun r=>zbt.const fun _ _=>rfl)
   simp only
   cases F (.call 0 f (asV ds) []) with
   | none=>rfl
   | some r=>cases r<;>rfl
 | _=>exact zbt.const fun _ _=>rfl
theorem z1w {γ:Type} {run:Oracle->γ->Option α} (h:∀a,zbt It E (fun F=>run F a)):∀l:List γ,zbt It E (fun F=>yss (run F) l)
 | []=>zbt.const fun _ _=>rfl
 | a::r=>zbt.bind hc (h a) fun _=>zbt.bind hc (z1w h r) fun _=>zbt.const fun _ _=>rfl
theorem z9f {run:Oracle->Mem->Option (V×Mem)} (h:∀m,zbt It E (fun F=>run F m)) (m:Mem) (v:V):zbt It E (fun F=>zx8 (run F) m v):=by
 unfold zx8
 split
 ·split
  ·exact zlv (zbt.bind hc (h _) fun _=>zbt.bind hc (z1w hc (fun _=>h _) _) fun _=>zbt.const fun _ _=>rfl) (zbt.const fun _ _=>rfl)
  ·exact h m
 ·exact h m
theorem zry {body:Oracle->Env->Mem->Option (Ex×Env×Mem)} (h:∀e m,zbt It E (fun F=>body F e m)) (it:Nat) (i:Id) (out nxt pair:Nat) (live:List Nat) (keep:List Id):
  ∀(l:List (D×V)) (e:Env) (m:Mem),zbt It E (fun F=>zop (body F) it i out nxt pair live keep l e m)
 | [],_,_=>zbt.const fun _ _=>rfl
 | (k,v)::r,e,m=>by
  refine zbt.bind hc (h _ _) fun p=> ?_
  unfold zm1
  split
  ·exact zlv (zry h it i out nxt pair live keep r _ _) (zbt.const fun _ _=>rfl)
  ·exact zbt.const fun _ _=>rfl
theorem z9h {body:Oracle->Env->Mem->Option (Ex×Env×Mem)} (h:∀e m,zbt It E (fun F=>body F e m)) (cx:Cx) (it:Nat) (x:Opd) (out nxt pair:Nat) (live:List Nat) (e:Env) (m:Mem):
  zbt It E (fun F=>z23 (body F) cx it x out nxt pair live e m):=by
 unfold z23
 split
 ·split
  ·exact zbt.bind hc (zbt.bind hc (zry hc h _ _ _ _ _ _ _ _ _ _) fun _=>zbt.bind hc (z1w hc (fun _=>zry hc h _ _ _ _ _ _ _ _ _ _) _) fun _=>zbt.const fun _ _=>rfl) fun _=>zbt.const fun _ _=>rfl
  ·exact zbt.const fun _ _=>rfl
 ·exact zbt.const fun _ _=>rfl
theorem z9g (cx:Cx) (slot:Nat) (e:Env) (m:Mem) (op:COp):zbt It E (fun F=>zca F cx slot e m op):=by
 cases op with
 | call s i f args=>exact zl1 hc cx slot s i _ _ m
 | callD f args=>
  simp only [zca]
  split
  ·split
   ·exact zl1 hc cx slot false true _ _ m
   ·exact zbt.const fun _ _=>rfl
  ·exact zbt.const fun _ _=>rfl
 | callK i f args=>
  refine zbt.of_eq (g:=fun F=>(zks F cx slot true i (zpp (f.ev e)) (evs e args) m).bind fun p=>if leM m p.2 m=true then some (p.1,m) else none) (fun F=> ?_) (zbt.bind hc (zl1 hc cx slot true i _ _ m) fun p=>zbt.const fun _ _=>rfl)
  simp only [zca]
  cases zks F cx slot true i (zpp (f.ev e)) (evs e args) m<;>rfl
 | callQ f args=>
  refine zbt.of_eq (g:=fun F=>(zwg F (zpp (f.ev e)) (evs e args) m).bind fun v=>some (v,m)) (fun F=> ?_) (zbt.bind hc (yb8 hc _ _ m) fun p=>zbt.const fun _ _=>rfl)
  simp only [zca]
  cases zwg F (zpp (f.ev e)) (evs e args) m<;>rfl
 | callU b f args=>exact yb9 hc b _ _ m
 | callZ f args=>exact yca hc _ _ m
 | callN f args=>
  simp only [zca]
  split
  ·split
   ·exact zl1 hc cx slot false false _ _ m
   ·exact zbt.const fun _ _=>rfl
  ·exact zbt.const fun _ _=>rfl
 | callB i f args b=>exact z9f hc (fun m=>zl1 hc cx slot true i _ _ m) m _
 | callR i f args rs=>
  refine zbt.of_eq (g:=fun F=>(zks F cx slot true i (zpp (f.ev e)) (evs e args) m).bind fun p=>if z7i m p.2 (rs.map (get e))=true then some p else none) (fun F=> ?_) (zbt.bind hc (zl1 hc cx slot true i _ _ m) fun p=>zbt.const fun _ _=>rfl)
  simp only [zca]
  cases zks F cx slot true i (zpp (f.ev e)) (evs e args) m<;>rfl
 | _=>exact zbt.const fun _ _=>rfl
theorem yhb (cx:Cx) (e:Env) (m:Mem) (o:CO):zbt It E (fun F=>zdr F cx e m o):=by
 obtain⟨dst,guard,op⟩:=o
 cases guard with
 | none=>exact z9g hc cx _ e m op
 | some g=>
  obtain⟨t,want⟩:=g
  simp only [zdr]
  split
  ·split
   ·exact z9g hc cx _ e m op
   ·exact zbt.const fun _ _=>rfl
  ·exact zbt.const fun _ _=>rfl
  ·exact zbt.const fun _ _=>rfl
theorem zpc (cx:Cx):∀(os:List CO) (e:Env) (m:Mem),zbt It E (fun F=>zh7 F cx os e m)
 | [],e,m=>zbt.const fun _ _=>rfl
 | o::r,e,m=>by
  refine zbt.of_eq (g:=fun F=>(zdr F cx e m o).bind fun p=>zh7 F cx r (put? e o.dst p.1) p.2) (fun F=> ?_) (zbt.bind hc (yhb hc cx e m o) fun p=>zpc cx r _ _)
  simp only [zh7]
  cases zdr F cx e m o<;>rfl
def yto:Res->Option (Ex×Env×Mem)
 | .st x e' m'=>some (x,e',m')
 | _=>none
def yo3 (cx:Cx) (i:Id) (e:Env):Res->Option (Ex×Env×Mem)
 | .val _ m'=>
  match look m' i with
  | some (.loop _ _ _ _ _ false _ j)=>
   if ziy cx.nx (idsAll (zdu cx.nx m')) then
    let m2:=upd (zdu cx.nx m') i .gone
    match j with
    | none=>some (.normal,e,m2)
    | some j=>some (j.ex,e,m2)
   else none
  | _=>none
 | _=>none
theorem zid (cx:Cx):∀(c:C) (e:Env) (m:Mem),zbt It E (fun F=>evC F cx c e m)
 | .skip,e,m=>zbt.const fun _ _=>rfl
 | .label,e,m=>zbt.const fun _ _=>rfl
 | .exit _,e,m=>zbt.const fun _ _=>rfl
 | .ret,e,m=>zbt.const fun _ _=>rfl
 | .bad,e,m=>zbt.const fun _ _=>rfl
 | .scope c,e,m=>by simp only [evC];exact zid cx c e m
 | .fz t c,e,m=>by
  simp only [evC]
  cases freeze false m (get e t) with
  | some d=>exact zid cx c _ m
  | none=>exact zbt.const fun _ _=>rfl
 | .reg _ ops kill,e,m=>by
  refine zbt.of_eq (g:=fun F=>(zh7 F cx ops e m).bind fun p=>some (.normal,zdb kill p.1,p.2)) (fun F=> ?_) (zbt.bind hc (zpc hc cx ops e m) fun p=>zbt.const fun _ _=>rfl)
  simp only [evC]
  cases zh7 F cx ops e m<;>rfl
 | .regC ops kill chk,e,m=>zbt.bind hc (zpc hc cx ops e m) fun p=>zbt.const fun _ _=>rfl
 | .seq a b,e,m=>by
  refine zbt.of_eq (g:=fun F=>(evC F cx a e m).bind fun p=>match p with|(.normal,e',m')=>evC F cx b e' m'|p=>some p) (fun F=> ?_) (zbt.bind hc (zid cx a e m) fun p=> ?_)
  ·simp only [evC]
   cases evC F cx a e m with
   | none=>rfl
   | some p=>obtain⟨x,e',m'⟩:=p;cases x<;>rfl
  ·obtain⟨x,e',m'⟩:=p
   cases x with
   | normal=>exact zid cx b e' m'
   | _=>exact zbt.const fun _ _=>rfl
 | .cond c a b,e,m=>by
  simp only [evC]
  split
  ·exact zlv (zid cx a e m) (zid cx b e m)
  ·exact zbt.const fun _ _=>rfl
 | .block id c,e,m=>by
  refine zbt.of_eq (g:=fun F=>(evC F cx c e m).bind fun p=>match p with|(.exit j,e',m')=>if j=id then some (.normal,e',m') else some (.exit j,e',m')|p=>some p) (fun F=> ?_) (zbt.bind hc (zid cx c e m) fun p=>zbt.const fun _ _=>rfl)
  simp only [evC]
  cases evC F cx c e m with
  | none=>rfl
  | some p=>obtain⟨x,e',m'⟩:=p;cases x<;>rfl
 | .loop live c,e,m=>by
  refine zbt.of_eq (g:=fun F=>(F (.loop cx live (zrf m) c (only live e) (gc (zrf m) (only live e) m))).bind yto) (fun F=> ?_) (zbt.bind hc (zbt.query hc _) fun p=>zbt.const fun _ _=>rfl)
  simp only [evC]
  cases F (.loop cx live (zrf m) c (only live e) (gc (zrf m) (only live e) m)) with
  | none=>rfl
  | some r=>cases r<;>rfl
 | .rangeM pre it x out nxt pair live ops kill code,e,m=>by
  simp only [evC]
  exact zbt.bind hc (zpc hc cx pre e m) fun p=>z9h hc (fun e m=>zbt.bind hc (zpc hc cx ops e m) fun q=>zid cx code _ _) _ _ _ _ _ _ _ _ _
 | .rangeFn slot f ps a b,e,m=>by
  simp only [evC]
  refine zlv ?_ (zbt.const fun _ _=>rfl)
  cases f.ev e with
  | fn g first caps=>
   refine zbt.of_eq (g:=fun F=>(F (.call cx.nx g (first ++[.yld (zcn cx slot m)]++caps) (upd m (zcn cx slot m) (.loop e ps a b cx.lv false false none)))).bind (yo3 cx (zcn cx slot m) e)) (fun F=> ?_) (zbt.bind hc (zbt.query hc _) fun p=>zbt.const fun _ _=>rfl)
   simp only
   cases F (.call cx.nx g (first ++[.yld (zcn cx slot m)]++caps) (upd m (zcn cx slot m) (.loop e ps a b cx.lv false false none))) with
   | none=>rfl
   | some r=>cases r<;>rfl
  | _=>exact zbt.const fun _ _=>rfl
theorem z9i (Γ:Nat->Option CF) (X:Extern) (q:Req):zbt It E (fun F=>step Γ X F q):=by
 cases q with
 | call lv f args m=>
  simp only [step]
  cases X f with
  | some x=>exact zbt.const fun _ _=>rfl
  | none=>
   cases Γ f with
   | none=>exact zbt.const fun _ _=>rfl
   | some cf=>
    refine zbt.of_eq (g:=fun F=>(evC F ⟨lv,lv+1⟩ cf.body (params 0 args) m).bind fun p=>match p with|(.normal,e,m')=>(results m' e cf.results).map fun v=> .val v m'|(.ret,e,m')=>(results m' e cf.results).map fun v=> .val v m'|_=>none) (fun F=> ?_) (zbt.bind hc (zid hc _ _ _ _) fun p=>zbt.const fun _ _=>rfl)
    simp only
    cases evC F ⟨lv,lv+1⟩ cf.body (params 0 args) m with
    | none=>rfl
    | some p=>obtain⟨x,e',m'⟩:=p;cases x<;>rfl
 | round nx o args m=>
  simp only [step]
  split
  ·rename_i e ps a b lv j hl
   refine zlv ?_ (zbt.const fun _ _=>rfl)
   refine zbt.of_eq (g:=fun F=>(evC F ⟨lv,nx⟩ a (yso ps args e) m).bind fun p=>match p with
    | (.normal,e1,m1)=>(match look m1 o with
     | some (.loop e' ps' a' b' lv' false false j')=>(evC F ⟨lv,nx⟩ b e1 (upd m1 o (.loop e' ps' a' b' lv' true false j'))).bind fun p=>match p with
      | (x,_,m2)=>match look m2 o with
       | some (.loop e' ps' a' b' lv' true false _)=>(match x with
        | .normal=>some (.val (.d (.bool true)) (gc (zrf m) [] (upd m2 o (.loop e' ps' a' b' lv' false false none))))
        | .exit id=>some (.val (.d (.bool false)) (upd m2 o (.loop e' ps' a' b' lv' false true (some (.exit id)))))
        | .ret=>some (.val (.d (.bool false)) (upd m2 o (.loop e' ps' a' b' lv' false true (some .ret)))))
       | _=>none
     | _=>none)
    | _=>none) (fun F=> ?_) (zbt.bind hc (zid hc _ _ _ _) fun p=> ?_)
   ·simp only
    cases evC F ⟨lv,nx⟩ a (yso ps args e) m with
    | none=>rfl
    | some p=>
     obtain⟨x,e',m'⟩:=p
     cases x with
     | normal=>
      simp only [Option.bind]
      split
      ·rename_i e2 ps2 a2 b2 lv2 j2 hlk
       simp only [hlk]
       cases evC F ⟨lv,nx⟩ b e' (upd m' o (.loop e2 ps2 a2 b2 lv2 true false j2)) with
       | none=>rfl
       | some p=>rfl
      ·rename_i hno
       split
       ·rename_i hlk
        exact absurd hlk (hno _ _ _ _ _ _)
       ·rfl
     | exit id=>rfl
     | ret=>rfl
   ·obtain⟨x,e1,m1⟩:=p
    cases x with
    | normal=>
     simp only
     split
     ·exact zbt.bind hc (zid hc _ _ _ _) fun p=>zbt.const fun _ _=>rfl
     ·exact zbt.const fun _ _=>rfl
    | _=>exact zbt.const fun _ _=>rfl
  ·exact zbt.const fun _ _=>rfl
 | loop cx live keep body e m=>
  simp only [step]
  refine zbt.of_eq (g:=fun F=>(evC F cx body e m).bind fun p=>match p with|(.normal,e',m')=>F (.loop cx live keep body (only live e') (gc keep (only live e') m'))|(x,e',m')=>some (.st x e' m')) (fun F=> ?_) (zbt.bind hc (zid hc _ _ _ _) fun p=> ?_)
  ·cases evC F cx body e m with
   | none=>rfl
   | some p=>obtain⟨x,e',m'⟩:=p;cases x<;>rfl
  ·obtain⟨x,e',m'⟩:=p
   cases x with
   | normal=>exact zbt.query hc _
   | _=>exact zbt.const fun _ _=>rfl
end
structure Lim (Γ:Nat->Option CF) (X:Extern) (E:Oracle):Prop where
 fix:∀q,E q=step Γ X E q
 reach:∀q r,E q=some r->∃n,iter Γ X n q=some r
theorem z3l {Γ:Nat->Option CF} {X:Extern} {F G:Oracle} (h:Le F G):Le (step Γ X F) (step Γ X G):=by
 have hc:ybk (fun _=>G) G:=⟨fun _ _ _ h=>h,fun _ _=>⟨fun h=>⟨0,h⟩,fun h=>h.elim fun _ h=>h⟩⟩
 exact fun q r hr=>(z9i hc Γ X q).mono F G h r hr
theorem ycp (Γ:Nat->Option CF) (X:Extern):∀n,Le (iter Γ X n) (iter Γ X (n+1))
 | 0=>fun _ _ h=>by simp [iter] at h
 | n+1=>z3l (ycp Γ X n)
theorem exists_lim (Γ:Nat->Option CF) (X:Extern):∃E,Lim Γ X E:=by
 have hd:∀q:Req,∃a:Option Res,∀r,a=some r↔∃n,iter Γ X n q=some r:=by
  intro q
  by_cases h:∃r,∃n,iter Γ X n q=some r
  ·obtain⟨r,n,hn⟩:=h
   refine⟨some r,fun r'=>⟨fun h=>⟨n,by rw [hn,h]⟩,fun⟨k,hk⟩=> ?_⟩⟩
   have up:∀a b,a<=b->Le (iter Γ X a) (iter Γ X b):=by
    intro a b hab
    induction hab with
    | refl=>exact fun _ _ h=>h
    | step _ ih=>exact fun q r hq=>ycp Γ X _ q r (ih q r hq)
   rw [<-up n (max n k) (Nat.le_max_left _ _) q r hn,up k (max n k) (Nat.le_max_right _ _) q r' hk]
  ·exact⟨none,fun r=>⟨fun h=>(nomatch h),fun hn=>absurd ⟨r,hn⟩ h⟩⟩
 have ⟨E,hE⟩:=Classical.axiomOfChoice hd
 have hc:ybk (iter Γ X) E:=⟨ycp Γ X,hE⟩
 refine⟨E,⟨fun q=> ?_,fun q r h=>(hE q r).1 h⟩⟩
 apply Option.ext
 intro r
 constructor
 ·intro h
  obtain⟨n,hn⟩:=(hE q r).1 h
  cases n with
  | zero=>simp [iter] at hn
  | succ n=>exact z3l (fun q r h=>(hE q r).2 ⟨n,h⟩) q r hn
 ·intro h
  obtain⟨n,hn⟩:=(z9i hc Γ X q).reach r h
  exact(hE q r).2 ⟨n+1,hn⟩
theorem Lim.of_iter {Γ:Nat->Option CF} {X:Extern} {E:Oracle} (h:Lim Γ X E):∀(n:Nat) (q:Req) (r:Res),iter Γ X n q=some r->E q=some r
 | 0,_,_,hn=>by simp [iter] at hn
 | n+1,q,r,hn=>by
  rw [h.fix]
  exact z3l (fun q r=>h.of_iter n q r) q r hn
end Go.Evl
namespace Go.Evl
structure ze8 (p k:Prop):Prop where
 need:p
 go:k
structure Br (t:Bool) (a b:Prop):Prop where
 yes:t=true->a
 no:t=false->b
structure Cmp (p a b:Prop):Prop where
 yes:p->a
 no:¬p->b
structure Wr (k:IntKind) (x:Int) (K:Int->Prop):Prop where
 go:K (k.wrap x)
structure Rem (a b:Int) (K:Int->Prop):Prop where
 ne:b≠0
 go:K (a.tmod b)
structure Quo (k:IntKind) (a b:Int) (K:Int->Prop):Prop where
 ne:b≠0
 go:K (k.wrap (a.tdiv b))
structure zg4 (cs:List D) (off:Nat) (K:D->Prop):Prop where
 got:∃d,cs[off]? =some d/\K d
structure ygz (cs:List V) (off:Nat) (K:V->Prop):Prop where
 got:∃d,cs[off]? =some d/\K d
structure zal (cs:List D) (off n:Nat) (K:List D->Prop):Prop where
 le:off+n<=cs.length
 go:K (win cs off n)
structure ybm (s:List UInt8) (i:Nat) (K:UInt8->Prop):Prop where
 got:∃b,s[i]? =some b/\K b
structure zko {α:Type} (o:Option α) (K:α->Prop):Prop where
 got:∃a,o=some a/\K a
def Fc (E:Oracle) (f:Nat) (args:List V) (r:V):Prop:=∃v m',E (.call 0 f args [])=some (.val v m')/\thaw m' v=some r
structure zae (E:Oracle) (f:Nat) (args:List V) (K:V->Prop):Prop where
 got:∃r,Fc E f args r/\K r
structure z3t (E:Oracle) (f:Nat) (args:List V) (K:V->Prop):Prop where
 got:∃v m' r,E (.call 0 f args [])=some (.val v m')/\z9x m' v=true/\thaw m' v=some r/\K r
structure zg3 (E:Oracle) (f:Nat) (args:List V) (cx:Cx) (slot:Nat) (m:Mem) (K:V->Mem->Prop):Prop where
 got:∃v m' p,E (.call 0 f args [])=some (.val v m')/\settle cx slot 0 m m' v=some p/\K p.1 p.2
structure In (E:Oracle) (lv f:Nat) (args:List V) (m:Mem) (K:V->Mem->Prop):Prop where
 got:∃v m',E (.call lv f args m)=some (.val v m')/\K v m'
structure Rnd (E:Oracle) (nx:Nat) (o:Id) (args:List V) (m:Mem) (K:V->Mem->Prop):Prop where
 got:∃v m',E (.round nx o args m)=some (.val v m')/\K v m'
structure zaf (E:Oracle) (cx:Cx) (live:List Nat) (keep:List Id) (body:C) (e:Env) (m:Mem) (K:Ex->Env->Mem->Prop):Prop where
 got:∃x e' m',E (.loop cx live keep body e m)=some (.st x e' m')/\K x e' m'
structure Chk (b:Bool) (k:Prop):Prop where
 need:b=true
 go:k
structure Ret (a b:V):Prop where
 eq:a=b
def ym3:Env->Nat->(V->Prop)->Prop
 | [],_,K=>K .undef
 | (u,v)::r,t,K=>match Nat.beq u t with
  | true=>K v
  | false=>ym3 r t K
theorem zr4:∀(e:Env) (t:Nat) (K:V->Prop),ym3 e t K=K (get e t)
 | [],_,_=>rfl
 | (u,v)::r,t,K=>by
  simp only [ym3,get]
  cases h:Nat.beq u t with
  | true=>simp [Nat.eq_of_beq_eq_true h]
  | false=>
   have:u≠t:=fun hh=>by rw [hh,Nat.beq_refl] at h;cases h
   simp only [if_neg this]
   exact zr4 r t K
def opK (e:Env) (x:Opd) (K:V->Prop):Prop:=
 match x with
 | .t n=>ym3 e n K
 | .k v=>K v
theorem zbm (e:Env) (x:Opd) (K:V->Prop):opK e x K=K (x.ev e):=by
 cases x with
 | t n=>exact zr4 e n K
 | k v=>rfl
def z9m (e:Env):List Opd->(List V->Prop)->Prop
 | [],K=>K []
 | x::r,K=>opK e x fun v=>z9m e r fun vs=>K (v::vs)
theorem zjg (e:Env):∀(l:List Opd) (K:List V->Prop),z9m e l K=K (evs e l)
 | [],_=>rfl
 | x::r,K=>by simp only [z9m,evs,zbm,zjg e r]
def yhk (e:Env):List Nat->(List V->Prop)->Prop
 | [],K=>K []
 | t::r,K=>ym3 e t fun v=>yhk e r fun vs=>K (v::vs)
theorem z0g (e:Env):∀(l:List Nat) (K:List V->Prop),yhk e l K=K (l.map (get e))
 | [],_=>rfl
 | t::r,K=>by simp only [yhk,zr4,z0g e r,List.map_cons]
def opK? (e:Env) (x:Option Opd) (K:Option V->Prop):Prop:=
 match x with
 | none=>K none
 | some x=>opK e x fun v=>K (some v)
theorem opK?_eq (e:Env) (x:Option Opd) (K:Option V->Prop):opK? e x K=K (x.map (·.ev e)):=by
 cases x with
 | none=>rfl
 | some x=>exact zbm e x _
def ys0:Env->Nat->V->(Env->Prop)->Prop
 | [],t,v,K=>K [(t,v)]
 | (u,x)::r,t,v,K=>match Nat.beq u t with
  | true=>K ((t,v)::r)
  | false=>ys0 r t v fun r'=>K ((u,x)::r')
theorem z7y:∀(e:Env) (t:Nat) (v:V) (K:Env->Prop),ys0 e t v K=K (put e t v)
 | [],_,_,_=>rfl
 | (u,x)::r,t,v,K=>by
  simp only [ys0,put]
  cases h:Nat.beq u t with
  | true=>simp [Nat.eq_of_beq_eq_true h]
  | false=>
   have:u≠t:=fun hh=>by rw [hh,Nat.beq_refl] at h;cases h
   simp only [if_neg this]
   exact z7y r t v _
def put?K (e:Env) (t:Option Nat) (v:V) (K:Env->Prop):Prop:=
 match t with
 | none=>K e
 | some t=>ys0 e t v K
theorem put?K_eq (e:Env) (t:Option Nat) (v:V) (K:Env->Prop):put?K e t v K=K (put? e t v):=by
 cases t with
 | none=>rfl
 | some t=>exact z7y e t v K
def yus:List Nat->Nat->Bool
 | [],_=>false
 | u::r,t=>match Nat.beq u t with
  | true=>true
  | false=>yus r t
theorem ykq:∀(l:List Nat) (t:Nat),yus l t=l.elem t
 | [],_=>rfl
 | u::r,t=>by
  simp only [yus]
  cases h:Nat.beq u t with
  | true=>simp [Nat.eq_of_beq_eq_true h]
  | false=>
   have:t≠u:=fun hh=>by rw [hh,Nat.beq_refl] at h;cases h
   simp only [ykq r t,List.elem_cons]
   have:(t==u)=false:=by simpa using this
   rw [this]
def zs3 (kill:List Nat):Env->(Env->Prop)->Prop
 | [],K=>K []
 | (u,v)::r,K=>match yus kill u with
  | true=>zs3 kill r K
  | false=>zs3 kill r fun r'=>K ((u,v)::r')
theorem zqk (kill:List Nat):∀(e:Env) (K:Env->Prop),zs3 kill e K=K (zdb kill e)
 | [],_=>rfl
 | (u,v)::r,K=>by
  simp only [zs3,ykq]
  cases h:kill.elem u with
  | true=>
   have hm:u∈kill:=by simpa using h
   simp only [zqk kill r];simp [zdb,hm]
  | false=>
   have hm:u∉kill:=by simpa using h
   simp only [zqk kill r];simp [zdb,hm]
def yk6 (e:Env):List Nat->(Env->Prop)->Prop
 | [],K=>K []
 | t::r,K=>ym3 e t fun v=>yk6 e r fun r'=>K ((t,v)::r')
theorem z7v (e:Env):∀(live:List Nat) (K:Env->Prop),yk6 e live K=K (only live e)
 | [],_=>rfl
 | t::r,K=>by simp only [yk6,zr4,z7v e r];rfl
def idB (i j:Id):Bool:=
 match Nat.beq i.slot j.slot with
 | true=>(match Nat.beq i.lv j.lv with
  | true=>Nat.beq i.k j.k
  | false=>false)
 | false=>false
theorem z69 {i j:Id} (h:idB i j=true):i=j:=by
 obtain⟨a,b,c⟩:=i
 obtain⟨x,y,z⟩:=j
 simp only [idB] at h
 split at h
 ·rename_i h1
  split at h
  ·rename_i h2
   rw [Nat.eq_of_beq_eq_true h1,Nat.eq_of_beq_eq_true h2,Nat.eq_of_beq_eq_true h]
  ·cases h
 ·cases h
theorem z2b {i j:Id} (h:idB i j=false):i≠j:=by
 rintro rfl
 obtain⟨a,b,c⟩:=i
 simp [idB,Nat.beq_refl] at h
def zkv:Mem->Id->(Option Ob->Prop)->Prop
 | [],_,K=>K none
 | (j,o)::r,i,K=>match idB j i with
  | true=>K (some o)
  | false=>zkv r i K
theorem zcu:∀(m:Mem) (i:Id) (K:Option Ob->Prop),zkv m i K=K (look m i)
 | [],_,_=>rfl
 | (j,o)::r,i,K=>by
  simp only [zkv,look]
  cases h:idB j i with
  | true=>simp [z69 h]
  | false=>simp only [if_neg (z2b h)];exact zcu r i K
def zqt:Mem->Id->Ob->(Mem->Prop)->Prop
 | [],i,o,K=>K [(i,o)]
 | (j,x)::r,i,o,K=>match idB j i with
  | true=>K ((i,o)::r)
  | false=>zqt r i o fun r'=>K ((j,x)::r')
theorem zcv:∀(m:Mem) (i:Id) (o:Ob) (K:Mem->Prop),zqt m i o K=K (upd m i o)
 | [],_,_,_=>rfl
 | (j,x)::r,i,o,K=>by
  simp only [zqt,upd]
  cases h:idB j i with
  | true=>simp [z69 h]
  | false=>simp only [if_neg (z2b h)];exact zcv r i o _
def ysg (m:Mem) (v:V) (K:Mem->Prop):Prop:=
 match v with
 | .ref o _ _ _=>zkv m o fun ob=>
  match ob with
  | some (.row true t sz n xs)=>zqt m o (.row false t sz n xs) K
  | _=>K m
 | _=>K m
theorem ypo (m:Mem) (v:V) (K:Mem->Prop) (h:ysg m v K):K (yl4 m v):=by
 cases v with
 | ref o a b c=>
  simp only [ysg,zcu] at h
  simp only [yl4]
  cases hl:look m o with
  | none=>simp only [hl] at h;exact h
  | some ob=>
   simp only [hl] at h
   cases ob with
   | row wr t sz n xs=>
    cases wr with
    | true=>simp only [zcv] at h;exact h
    | false=>exact h
   | _=>exact h
 | _=>exact h
def yko:List Id->Id->Bool
 | [],_=>false
 | u::r,t=>match idB u t with
  | true=>true
  | false=>yko r t
theorem ykp:∀(l:List Id) (t:Id),yko l t=l.elem t
 | [],_=>rfl
 | u::r,t=>by
  simp only [yko]
  cases h:idB u t with
  | true=>simp [z69 h]
  | false=>
   have h':t≠u:=fun hh=>z2b h hh.symm
   simp only [ykp r t,List.elem_cons]
   have:(t==u)=false:=by simpa using h'
   rw [this]
def gcF (a b c:List Id):Mem->(Mem->Prop)->Prop
 | [],K=>K []
 | (i,o)::r,K=>match yko a i with
  | true=>gcF a b c r fun r'=>K ((i,o)::r')
  | false=>(match yko b i with
   | true=>gcF a b c r fun r'=>K ((i,o)::r')
   | false=>(match yko c i with
    | true=>gcF a b c r fun r'=>K ((i,o)::r')
    | false=>gcF a b c r K))
theorem yqb (a b c:List Id):∀(m:Mem) (K:Mem->Prop),gcF a b c m K=K (m.filter fun p=>a.elem p.1||b.elem p.1||c.elem p.1)
 | [],_=>rfl
 | (i,o)::r,K=>by
  simp only [gcF,ykp]
  cases ha:a.elem i<;>cases hb:b.elem i<;>cases hc:c.elem i<;>simp only [yqb a b c r,List.filter_cons,ha,hb,hc]<;>rfl
def gcK (keep:List Id) (e:Env) (m:Mem) (K:Mem->Prop):Prop:=
 match m with
 | []=>K []
 | _::_=>gcF keep (yi3 e) (idsAll m) m fun m1=>gcF keep (yi3 e) (idsAll m1) m1 fun m2=>gcF keep (yi3 e) (idsAll m2) m2 K
theorem ykc (keep:List Id) (e:Env) (m:Mem) (K:Mem->Prop):gcK keep e m K=K (gc keep e m):=by
 cases m with
 | nil=>rfl
 | cons p r=>simp only [gcK,yqb];rfl
def z5g (lv slot:Nat):Mem->(Nat->Prop)->Prop
 | [],K=>K 0
 | (j,_)::r,K=>match Nat.beq j.slot slot with
  | true=>(match Nat.beq j.lv lv with
   | true=>z5g lv slot r fun n=>K (max (j.k+1) n)
   | false=>z5g lv slot r K)
  | false=>z5g lv slot r K
theorem zws (lv slot:Nat):∀(m:Mem) (K:Nat->Prop),z5g lv slot m K=K (freeK lv slot m)
 | [],_=>rfl
 | (j,o)::r,K=>by
  simp only [z5g,freeK]
  cases h1:Nat.beq j.slot slot with
  | false=>
   have:j.slot≠slot:=fun hh=>by rw [hh,Nat.beq_refl] at h1;cases h1
   simp only [this,and_false,if_false]
   exact zws lv slot r K
  | true=>
   cases h2:Nat.beq j.lv lv with
   | false=>
    have:j.lv≠lv:=fun hh=>by rw [hh,Nat.beq_refl] at h2;cases h2
    simp only [this,false_and,if_false]
    exact zws lv slot r K
   | true=>simp only [Nat.eq_of_beq_eq_true h1,Nat.eq_of_beq_eq_true h2,and_self,if_true,zws lv slot r]
def yhv (cx:Cx) (slot:Nat) (m:Mem) (K:Id->Prop):Prop:=z5g cx.lv slot m fun n=>K ⟨cx.lv,slot,n⟩
theorem zli (cx:Cx) (slot:Nat) (m:Mem) (K:Id->Prop):yhv cx slot m K=K (zcn cx slot m):=zws _ _ _ _
def yco (cx:Cx) (slot:Nat):List ybl->Mem->(List V->Mem->Prop)->Prop
 | [],m,K=>K [] m
 | .z x::r,m,K=>yco cx slot r m fun vs m'=>K (.d x::vs) m'
 | .own s::r,m,K=>yhv cx slot m fun i=>zqt m i (.row s.wr s.t s.sz 0 []) fun m1=>yco cx slot r m1 fun vs m'=>K (.ref i 0 0 0::vs) m'
theorem z0h (cx:Cx) (slot:Nat):∀(l:List ybl) (m:Mem) (K:List V->Mem->Prop),yco cx slot l m K=K (zbc cx slot l m).1 (zbc cx slot l m).2
 | [],_,_=>rfl
 | .z x::r,m,K=>by simp only [yco,zbc,z0h cx slot r]
 | .own s::r,m,K=>by simp only [yco,zbc,zli,zcv,z0h cx slot r]
mutual
def zgs (any:Bool) (m:Mem):V->(D->Prop)->Prop
 | .d x,K=>K x
 | .cl n cs,K=>K (.list n cs)
 | .agg cs,K=>zsn any m cs fun ds=>K (.agg ds)
 | .fn f [] [],K=>K (.fn f)
 | .ref o off len top,K=>zkv m o fun x=>
  match x with
  | some (.row wr _ sz n xs)=>
   (match (!wr||any) with
   | true=>ze8 (n=top/\off+len<=n) (K (.list len (if off=0/\len=n then xs else win xs (off*sz) (len*sz))))
   | false=>False)
  | _=>False
 | _,_=>False
def zsn (any:Bool) (m:Mem):List V->(List D->Prop)->Prop
 | [],K=>K []
 | v::r,K=>zgs any m v fun d=>zsn any m r fun ds=>K (d::ds)
end
mutual
theorem zpg (any:Bool) (m:Mem):∀(v:V) (K:D->Prop),zgs any m v K->∃d,freeze any m v=some d/\K d
 | .d x,K,h=>⟨x,rfl,h⟩
 | .agg cs,K,h=>by
  obtain⟨ds,h1,h2⟩:=zmn any m cs _ h
  exact⟨_,by simp only [freeze,h1];rfl,h2⟩
 | .ref o off len top,K,h=>by
  simp only [zgs,zcu] at h
  simp only [freeze]
  cases hl:look m o with
  | none=>rw [hl] at h;exact h.elim
  | some x=>
   rw [hl] at h
   cases x with
   | row wr t sz n xs=>
    simp only at h ⊢
    split at h
    ·rename_i hw
     have hc:(wr=false\/any=true)/\n=top/\off+len<=n:=⟨by cases wr<;>simp_all,h.need⟩
     exact⟨_,if_pos hc,h.go⟩
    ·exact h.elim
   | _=>exact h.elim
 | .tup _,_,h=>(by simp only [zgs] at h)
 | .ptr ..,_,h=>(by simp only [zgs] at h)
 | .lptr ..,_,h=>(by simp only [zgs] at h)
 | .cl n cs,K,h=>⟨_,rfl,h⟩
 | .fn f [] [],K,h=>⟨_,rfl,h⟩
 | .fn _ (_::_) _,_,h=>(by simp only [zgs] at h)
 | .fn _ [] (_::_),_,h=>(by simp only [zgs] at h)
 | .yld _,_,h=>(by simp only [zgs] at h)
 | .mp _,_,h=>(by simp only [zgs] at h)
 | .it _,_,h=>(by simp only [zgs] at h)
 | .skip,_,h=>(by simp only [zgs] at h)
 | .undef,_,h=>(by simp only [zgs] at h)
theorem zmn (any:Bool) (m:Mem):∀(vs:List V) (K:List D->Prop),zsn any m vs K->∃ds,freezeL any m vs=some ds/\K ds
 | [],K,h=>⟨[],rfl,h⟩
 | v::r,K,h=>by
  obtain⟨d,h1,h2⟩:=zpg any m v _ h
  obtain⟨ds,h3,h4⟩:=zmn any m r _ h2
  exact⟨d::ds,by simp only [freezeL,h1,h3],h4⟩
end
def yqz:List D->(List V->Prop)->Prop
 | [],K=>K []
 | x::r,K=>yqz r fun vs=>K (.d x::vs)
theorem z02:∀(l:List D) (K:List V->Prop),yqz l K=K (asV l)
 | [],_=>rfl
 | x::r,K=>by simp only [yqz,asV,z02 r]
def yiu (m:Mem) (v:V) (K:V->Prop):Prop:=
 match v with
 | .tup vs=>zsn true m vs fun xs=>yqz xs fun ys=>K (.tup ys)
 | v=>zgs true m v fun d=>K (.d d)
theorem ygv (m:Mem) (v:V) (K:V->Prop) (h:yiu m v K):∃r,thaw m v=some r/\K r:=by
 have simple:∀v:V,(∀vs,v≠ .tup vs)->zgs true m v (fun d=>K (.d d))->∃r,thaw m v=some r/\K r:=by
  intro v hv h
  obtain⟨d,h1,h2⟩:=zpg true m v _ h
  refine⟨.d d,?_,h2⟩
  unfold thaw
  split
  ·rename_i vs;exact absurd rfl (hv vs)
  ·rw [h1];rfl
 cases v with
 | tup vs=>
  obtain⟨xs,h1,h2⟩:=zmn true m vs _ h
  rw [z02] at h2
  exact⟨_,by simp only [thaw,h1];rfl,h2⟩
 | _=>exact simple _ (by intro vs hh;cases hh) h
def ynh:List V->(Option (List D)->Prop)->Prop
 | [],K=>K (some [])
 | .d x::r,K=>ynh r fun o=>
  match o with
  | some ds=>K (some (x::ds))
  | none=>K none
 | _::_,K=>K none
theorem yem:∀(l:List V) (K:Option (List D)->Prop),ynh l K=K (zs4 l)
 | [],_=>rfl
 | v::r,K=>by
  cases v with
  | d x=>simp only [ynh,zs4,yem r];cases zs4 r<;>rfl
  | _=>rfl
def yup (cs:List V) (K:V->Prop):Prop:=ynh cs fun o=>
 match o with
 | some ds=>K (.d (.agg ds))
 | none=>K (.agg cs)
theorem yjb (cs:List V) (K:V->Prop):yup cs K=K (ycu cs):=by
 simp only [yup,yem,ycu]
 cases zs4 cs<;>rfl
def z87 (v:V) (K:List V->Prop):Prop:=
 match v with
 | .d (.agg cs)=>yqz cs K
 | .agg cs=>K cs
 | .tup _=>False
 | .skip=>False
 | .undef=>False
 | v=>K [v]
theorem z1t (v:V) (K:List V->Prop) (h:z87 v K):∃cs,cellsOf v=some cs/\K cs:=by
 cases v with
 | d x=>
  cases x with
  | agg cs=>simp only [z87,z02] at h;exact⟨_,rfl,h⟩
  | _=>exact⟨_,rfl,h⟩
 | tup _=>exact h.elim
 | skip=>exact h.elim
 | undef=>exact h.elim
 | _=>exact⟨_,rfl,h⟩
def over {α:Type}:List α->Nat->List α->List α
 | cs,0,[]=>cs
 | _::cs,0,x::xs=>x::over cs 0 xs
 | c::cs,n+1,xs=>c::over cs n xs
 | [],_,_=>[]
theorem yaf {α:Type}:∀(cs xs:List α),xs.length<=cs.length->over cs 0 xs=xs++cs.drop xs.length
 | cs,[],_=>by simp [over]
 | [],x::xs,h=>by simp at h
 | c::cs,x::xs,h=>by
  simp only [over,yaf cs xs (by simpa using h)]
  simp
theorem ydb {α:Type}:∀(cs:List α) (off:Nat) (xs:List α),off+xs.length<=cs.length->over cs off xs=patch cs off xs
 | cs,0,xs,h=>by
  rw [yaf cs xs (by omega)]
  simp [patch]
 | [],n+1,xs,h=>by simp at h
 | c::cs,n+1,xs,h=>by
  simp only [over,ydb cs n xs (by simp at h;omega),patch]
  simp [Nat.add_right_comm]
def z4k {α:Type}:List α->Nat->List α->(List α->Prop)->Prop
 | cs,0,[],K=>K cs
 | _::cs,0,x::xs,K=>z4k cs 0 xs fun r=>K (x::r)
 | c::cs,n+1,xs,K=>z4k cs n xs fun r=>K (c::r)
 | [],_,_,K=>K []
theorem z0m {α:Type}:∀(cs:List α) (off:Nat) (xs:List α) (K:List α->Prop),z4k cs off xs K=K (over cs off xs)
 | cs,0,[],K=>by simp only [z4k,over]
 | [],0,x::xs,K=>by simp only [z4k,over]
 | c::cs,0,x::xs,K=>by simp only [z4k,over,z0m cs 0 xs]
 | [],n+1,xs,K=>by simp only [z4k,over]
 | c::cs,n+1,xs,K=>by simp only [z4k,over,z0m cs n xs]
def yrh (cs:List V):List (Nat×Nat×V)->(List V->Prop)->Prop
 | [],K=>K cs
 | (off,n,v)::r,K=>z87 v fun xs=>
  match Nat.beq xs.length n with
  | true=>(match Nat.ble (off+n) cs.length with
   | true=>z4k cs off xs fun cs'=>yrh cs' r K
   | false=>False)
  | false=>False
theorem ye4:∀(l:List (Nat×Nat×V)) (cs:List V) (K:List V->Prop),yrh cs l K->∃cs',z9p cs l=some cs'/\K cs'
 | [],cs,K,h=>⟨cs,rfl,h⟩
 | (off,n,v)::r,cs,K,h=>by
  obtain⟨xs,h1,h2⟩:=z1t v _ h
  split at h2
  ·rename_i e1
   split at h2
   ·rename_i e2
    have e1':=Nat.eq_of_beq_eq_true e1
    have e2':=Nat.le_of_ble_eq_true e2
    rw [z0m] at h2
    obtain⟨cs',h3,h4⟩:=ye4 r _ K h2
    refine⟨cs',?_,h4⟩
    simp only [z9p,h1]
    rw [if_pos ⟨e1',e2'⟩,<-ydb cs off xs (by omega)]
    exact h3
   ·exact h2.elim
  ·exact h2.elim
def yf3 (e:Env):List (Nat×Nat×Opd)->(List (Nat×Nat×V)->Prop)->Prop
 | [],K=>K []
 | (a,b,x)::r,K=>opK e x fun v=>yf3 e r fun l=>K ((a,b,v)::l)
theorem yag (e:Env):∀(l:List (Nat×Nat×Opd)) (K:List (Nat×Nat×V)->Prop),yf3 e l K=K (zw3 e l)
 | [],_=>rfl
 | (a,b,x)::r,K=>by simp only [yf3,zw3,zbm,yag e r]
def yb0 (m:Mem) (v:V) (K:List D->Prop):Prop:=zgs false m v fun d=>
 match d with
 | .agg cs=>K cs
 | x=>K [x]
theorem z47 (m:Mem) (v:V) (K:List D->Prop) (h:yb0 m v K):∃cs,zql m v=some cs/\K cs:=by
 obtain⟨d,h1,h2⟩:=zpg false m v _ h
 unfold zql
 rw [h1]
 cases d<;>exact⟨_,rfl,h2⟩
def z92 (sz:Nat) (m:Mem):List V->(List D->Prop)->Prop
 | [],K=>K []
 | v::r,K=>yb0 m v fun x=>match Nat.beq x.length sz with
  | true=>z92 sz m r fun xs=>K (x++xs)
  | false=>False
theorem zwy (sz:Nat) (m:Mem):∀(l:List V) (K:List D->Prop),z92 sz m l K->∃ds,zrd sz m l=some ds/\K ds
 | [],K,h=>⟨[],rfl,h⟩
 | v::r,K,h=>by
  obtain⟨x,h1,h2⟩:=z47 m v _ h
  split at h2
  ·rename_i e
   obtain⟨xs,h3,h4⟩:=zwy sz m r _ h2
   refine⟨x++xs,?_,h4⟩
   simp only [zrd,h1,h3,if_pos (Nat.eq_of_beq_eq_true e)]
  ·exact h2.elim
structure zff (n:Nat) (l h:Int) (K:Nat->Nat->Prop):Prop where
 ok:0<=h/\h<=n/\0<=l/\l<=h
 go:K l.toNat h.toNat
def zxn (n:Nat) (lo hi:Option V) (K:Nat->Nat->Prop):Prop:=
 match lo,hi with
 | none,none=>K 0 n
 | some (.d (.int _ l)),none=>zff n l n K
 | none,some (.d (.int _ h))=>zff n 0 h K
 | some (.d (.int _ l)),some (.d (.int _ h))=>zff n l h K
 | _,_=>False
theorem zsk (n:Nat) (lo hi:Option V) (K:Nat->Nat->Prop) (h:zxn n lo hi K):∃p,zcl n lo hi=some p/\K p.1 p.2:=by
 unfold zxn at h
 split at h
 ·refine⟨(0,n),?_,h⟩
  simp [zcl]
 ·rename_i k l
  refine⟨(l.toNat,(n:Int).toNat),?_,h.go⟩
  simp only [zcl,asI]
  exact if_pos h.ok
 ·rename_i k l
  refine⟨((0:Int).toNat,l.toNat),?_,h.go⟩
  simp only [zcl,asI]
  exact if_pos h.ok
 ·rename_i k l k' l'
  refine⟨(l.toNat,l'.toNat),?_,h.go⟩
  simp only [zcl,asI]
  exact if_pos h.ok
 ·exact h.elim
def ylb (n:Option Nat) (cs:List V) (off:Nat) (K:V->Prop):Prop:=
 match n with
 | none=>ygz cs off K
 | some n=>ze8 (off+n<=cs.length) (yup (win cs off n) K)
theorem yai (n:Option Nat) (cs:List V) (off:Nat) (K:V->Prop) (h:ylb n cs off K):∃v,yhx n cs off=some v/\K v:=by
 cases n with
 | none=>obtain⟨d,h1,h2⟩:=h.got;exact⟨d,h1,h2⟩
 | some n=>obtain⟨h1,h2⟩:=h;rw [yjb] at h2;exact⟨_,if_pos h1,h2⟩
def yah (n:Option Nat) (cs:List D) (off:Nat) (K:V->Prop):Prop:=
 match n with
 | none=>zg4 cs off fun d=>K (.d d)
 | some n=>zal cs off n fun ds=>K (.d (.agg ds))
theorem zw4 (n:Option Nat) (cs:List D) (off:Nat) (K:V->Prop) (h:yah n cs off K):∃v,z4l n cs off=some v/\K v:=by
 cases n with
 | none=>obtain⟨d,h1,h2⟩:=h.got;exact⟨_,by simp only [z4l,h1];rfl,h2⟩
 | some n=>obtain⟨h1,h2⟩:=h;exact⟨_,if_pos h1,h2⟩
def yol (n:Option Nat) (m:Mem) (a:V) (K:V->Prop):Prop:=
 match a with
 | .lptr cs off=>yah n cs off K
 | .ptr o off top=>zkv m o fun x=>
  match x with
  | some (.cells _ cs)=>ylb n cs off K
  | some (.row _ _ _ l xs)=>ze8 (l=top) (yah n xs off K)
  | _=>False
 | _=>False
theorem yfq (n:Option Nat) (m:Mem) (a:V) (K:V->Prop) (h:yol n m a K):∃v,z2i n m a=some v/\K v:=by
 unfold yol at h
 split at h
 ·exact zw4 _ _ _ _ h
 ·rename_i o off top
  rw [zcu] at h
  simp only [z2i]
  split at h
  ·rename_i hl;rw [hl];exact yai _ _ _ _ h
  ·rename_i hl;rw [hl]
   obtain⟨v,h1,h2⟩:=zw4 _ _ _ _ h.go
   exact⟨v,(if_pos h.need).trans h1,h2⟩
  ·exact h.elim
 ·exact h.elim
def ygt (n:Nat) (m:Mem) (a x:V) (K:Mem->Prop):Prop:=
 match a with
 | .ptr o off top=>zkv m o fun y=>
  match y with
  | some (.cells t cs)=>z87 x fun xs=>ze8 (xs.length=n/\off+n<=cs.length) (z4k cs off xs fun cs'=>zqt m o (.cells t cs') K)
  | some (.row true t sz l xs)=>yb0 m x fun ds=>ze8 (ds.length=n/\off+n<=xs.length/\l=top) (zqt m o (.row true t sz l (patch xs off ds)) K)
  | _=>False
 | _=>False
theorem ybb (n:Nat) (m:Mem) (a x:V) (K:Mem->Prop) (h:ygt n m a x K):∃m',zxd n m a x=some m'/\K m':=by
 unfold ygt at h
 split at h
 ·rename_i o off top
  rw [zcu] at h
  simp only [zxd]
  split at h
  ·rename_i hl;rw [hl]
   obtain⟨xs,h1,h2,h3⟩:=z1t x _ h
   rw [z0m,zcv,ydb _ _ _ (by omega)] at h3
   simp only [h1]
   exact⟨_,if_pos h2,h3⟩
  ·rename_i hl;rw [hl]
   obtain⟨ds,h1,h2,h3⟩:=z47 m x _ h
   rw [zcv] at h3
   simp only [h1]
   exact⟨_,if_pos h2,h3⟩
  ·exact h.elim
 ·exact h.elim
def yl9 (sz:Nat) (m:Mem) (x:V) (lo hi mx:Option V) (K:V->Prop):Prop:=
 match x with
 | .d (.list n cs)=>zxn n lo hi fun l h=>
  match mx with
  | none=>K (.d (.list (h-l) (win cs (l*sz) ((h-l)*sz))))
  | some _=>ze8 (hi.isSome/\mx.bind asI=hi.bind asI) (K (.d (.list (h-l) (win cs (l*sz) ((h-l)*sz)))))
 | .ref o off len top=>zkv m o fun y=>
  match y with
  | some (.row wr _ sz' n xs)=>ze8 (n=top/\off+len<=n/\sz'=sz) (zxn len lo hi fun l h=>
   match mx with
   | none=>(match wr with
    | true=>K (.ref o (off+l) (h-l) top)
    | false=>K (.d (.list (h-l) (win xs ((off+l)*sz) ((h-l)*sz)))))
   | some _=>False)
  | _=>False
 | .d .nil=>zxn 0 lo hi fun _ _=>
  match mx with
  | none=>K (.d .nil)
  | some _=>False
 | _=>False
theorem yma (sz:Nat) (m:Mem) (x:V) (lo hi mx:Option V) (K:V->Prop) (h:yl9 sz m x lo hi mx K):∃v,ztu sz m x lo hi mx=some v/\K v:=by
 unfold yl9 at h
 split at h
 ·obtain⟨p,h1,h2⟩:=zsk _ _ _ _ h
  obtain⟨l,hh⟩:=p
  simp only [ztu,h1]
  cases mx with
  | none=>exact⟨_,if_pos (Or.inl rfl),h2⟩
  | some y=>exact⟨_,if_pos (Or.inr h2.need),h2.go⟩
 ·rename_i o off len top
  rw [zcu] at h
  simp only [ztu]
  split at h
  ·rename_i wr t1 sz1 n1 xs1 hl;rw [hl]
   obtain⟨h0,h⟩:=h
   obtain⟨p,h1,h2⟩:=zsk _ _ _ _ h
   obtain⟨l,hh⟩:=p
   simp only [if_pos h0,h1]
   cases mx with
   | none=>
    cases wr with
    | true=>exact⟨_,by simp,h2⟩
    | false=>exact⟨_,by simp,h2⟩
   | some y=>exact h2.elim
  ·exact h.elim
 ·obtain⟨p,h1,h2⟩:=zsk _ _ _ _ h
  simp only [ztu,h1]
  cases mx with
  | none=>exact⟨_,if_pos rfl,h2⟩
  | some y=>exact h2.elim
 ·exact h.elim
def z7e (sz:Nat) (m:Mem) (x i:V) (K:V->Prop):Prop:=
 match i with
 | .d (.int _ i)=>
  (match x with
  | .d (.list n cs)=>ze8 (0<=i/\i<n) (K (.lptr cs (i.toNat*sz)))
  | .ref o off len top=>zkv m o fun y=>
   match y with
   | some (.row _ _ sz' n _)=>ze8 (0<=i/\i<len/\n=top/\off+len<=n/\sz'=sz) (K (.ptr o ((off+i.toNat)*sz) top))
   | _=>False
  | _=>False)
 | _=>False
theorem ycm (sz:Nat) (m:Mem) (x i:V) (K:V->Prop) (h:z7e sz m x i K):∃v,zlx sz m x i=some v/\K v:=by
 unfold z7e at h
 split at h
 ·split at h
  ·exact⟨_,if_pos h.need,h.go⟩
  ·rw [zcu] at h
   split at h
   ·rename_i hl;simp only [zlx,asI,hl];exact⟨_,if_pos h.need,h.go⟩
   ·exact h.elim
  ·exact h.elim
 ·exact h.elim
def yon (off:Nat) (m:Mem) (v:V) (K:V->Prop):Prop:=
 match v with
 | .lptr cs b=>K (.lptr cs (b+off))
 | .ptr o b top=>zkv m o fun x=>
  match x with
  | some (.cells ..)=>K (.ptr o (b+off) top)
  | some (.row _ _ _ n _)=>ze8 (n=top) (K (.ptr o (b+off) top))
  | _=>False
 | _=>False
theorem yfu (off:Nat) (m:Mem) (v:V) (K:V->Prop) (h:yon off m v K):∃r,zf2 off m v=some r/\K r:=by
 unfold yon at h
 split at h
 ·exact⟨_,rfl,h⟩
 ·rw [zcu] at h
  split at h
  ·rename_i hl;exact⟨_,by simp only [zf2,z8v,hl];rfl,h⟩
  ·rename_i hl;exact⟨_,by simp only [zf2,z8v,hl,h.need];simp,h.go⟩
  ·exact h.elim
 ·exact h.elim
def yoy (n:Option Nat) (x:V) (off:Nat) (K:V->Prop):Prop:=
 match x with
 | .d (.agg cs)=>yah n cs off K
 | .agg cs=>ylb n cs off K
 | _=>False
theorem yf2 (n:Option Nat) (x:V) (off:Nat) (K:V->Prop) (h:yoy n x off K):∃r,ydd n x off=some r/\K r:=by
 unfold yoy at h
 split at h
 ·exact zw4 _ _ _ _ h
 ·exact yai _ _ _ _ h
 ·exact h.elim
def yu8 (m:Mem) (k:Kd) (v:V) (K:Nat->Prop):Prop:=
 match k with
 | .str=>(match v with
  | .d (.str s)=>K s.length
  | _=>False)
 | .slc=>(match v with
  | .d (.list n _)=>K n
  | .d .nil=>K 0
  | .cl n _=>K n
  | .ref o _ len top=>zkv m o fun x=>
   match x with
   | some (.row _ _ _ n _)=>ze8 (n=top) (K len)
   | _=>False
  | _=>False)
 | .map=>(match v with
  | .mp o=>zkv m o fun x=>
   match x with
   | some (.map es)=>K es.length
   | _=>False
  | _=>False)
 | .cap=>(match v with
  | .d .nil=>K 0
  | _=>False)
theorem yrq (m:Mem) (k:Kd) (v:V) (K:Nat->Prop) (h:yu8 m k v K):∃n,yi4 m k v=some n/\K n:=by
 unfold yu8 at h
 split at h
 ·split at h
  ·exact⟨_,rfl,h⟩
  ·exact h.elim
 ·split at h
  ·exact⟨_,rfl,h⟩
  ·exact⟨_,rfl,h⟩
  ·exact⟨_,rfl,h⟩
  ·rw [zcu] at h
   split at h
   ·rename_i hl;exact⟨_,by simp only [yi4,hl];exact if_pos h.need,h.go⟩
   ·exact h.elim
  ·exact h.elim
 ·split at h
  ·rw [zcu] at h
   split at h
   ·rename_i hl;exact⟨_,by simp only [yi4,hl],h⟩
   ·exact h.elim
  ·exact h.elim
 ·split at h
  ·exact⟨_,rfl,h⟩
  ·exact h.elim
def z5b (m:Mem) (v:V) (K:Nat->List D->Prop):Prop:=
 match v with
 | .d (.list n cs)=>K n cs
 | .d .nil=>K 0 []
 | .ref o off len top=>zkv m o fun x=>
  match x with
  | some (.row _ _ sz n xs)=>ze8 (n=top/\off+len<=n) (K len (if off=0/\len=n then xs else win xs (off*sz) (len*sz)))
  | _=>False
 | _=>False
theorem zwn (m:Mem) (v:V) (K:Nat->List D->Prop) (h:z5b m v K):∃p,zyu m v=some p/\K p.1 p.2:=by
 unfold z5b at h
 split at h
 ·exact⟨_,rfl,h⟩
 ·exact⟨_,rfl,h⟩
 ·rw [zcu] at h
  split at h
  ·rename_i hl;exact⟨_,by simp only [zyu,hl];exact if_pos h.need,h.go⟩
  ·exact h.elim
 ·exact h.elim
def zu5 (cx:Cx) (slot:Nat) (r:zcp) (m:Mem) (k:Nat) (ds:List D) (s:V) (K:V->Mem->Prop):Prop:=
 match s with
 | .ref o off len top=>zkv m o fun x=>
  match x with
  | some (.row wr t sz n xs)=>
   ze8 (off=0/\len=n/\n=top/\t=r.t/\sz=r.sz/\ds.length=k*sz/\(n+k)*r.by_<=140737488355328/\n+k<=140737488355328)
    (zqt m o (.row wr t sz (n+k) (xs++ds)) fun m'=>K (.ref o 0 (n+k) (n+k)) m')
  | _=>False
 | .d .nil=>ze8 (k≠0/\ds.length=k*r.sz/\k*r.by_<=140737488355328/\k<=140737488355328) (yhv cx slot m fun i=>zqt m i (.row r.wr r.t r.sz k ds) fun m'=>K (.ref i 0 k k) m')
 | .cl n cs=>ze8 (k≠0/\ds.length=k*r.sz/\cs.length=n*r.sz/\(n+k)*r.by_<=140737488355328/\n+k<=140737488355328) (yhv cx slot m fun i=>zqt m i (.row r.wr r.t r.sz (n+k) (cs++ds)) fun m'=>K (.ref i 0 (n+k) (n+k)) m')
 | _=>False
theorem zty (cx:Cx) (slot:Nat) (r:zcp) (m:Mem) (k:Nat) (ds:List D) (s:V) (K:V->Mem->Prop) (h:zu5 cx slot r m k ds s K):
  ∃p,zn9 cx slot r m (some (k,ds)) s=some p/\K p.1 p.2:=by
 unfold zu5 at h
 split at h
 ·rw [zcu] at h
  split at h
  ·rename_i hl
   obtain⟨⟨h1,h2,h3,h4,h5,h6,h7,h8⟩,h9⟩:=h
   rw [zcv] at h9
   refine⟨(_,_),?_,h9⟩
   simp only [zn9,hl]
   exact if_pos ⟨h1,h2,h3,h4,h5,h6,by simp [zw9,h7,h8]⟩
  ·exact h.elim
 ·obtain⟨⟨h1,h2,h3,h4⟩,h9⟩:=h
  rw [zli,zcv] at h9
  refine⟨(_,_),?_,h9⟩
  simp only [zn9]
  exact if_pos ⟨h1,h2,by simp [zw9,h3,h4]⟩
 ·obtain⟨⟨h1,h2,h0,h3,h4⟩,h9⟩:=h
  rw [zli,zcv] at h9
  refine⟨(_,_),?_,h9⟩
  simp only [zn9]
  exact if_pos ⟨h1,h2,h0,by simp [zw9,h3,h4]⟩
 ·exact h.elim
def eqB:D->D->(Prop->Prop)->Prop
 | .int k a,.int l b,K=>(match decide (k=l) with
  | true=>K (a=b)
  | false=>False)
 | .bool a,.bool b,K=>K (a=b)
 | .str a,.str b,K=>K (a=b)
 | _,_,_=>False
def yrd:List D->List D->(Prop->Prop)->Prop
 | [],[],K=>K True
 | [x],[y],K=>eqB x y K
 | x::x2::r,y::y2::s,K=>eqB x y fun p=>yrd (x2::r) (y2::s) fun q=>K (p/\q)
 | _,_,_=>False
theorem yqa (x y:D) (K:Prop->Prop) (h:eqB x y K):∃b p,eqD x y=some b/\(b=true↔p)/\K p:=by
 unfold eqB at h
 split at h
 ·split at h
  ·rename_i a _ b _ e
   exact⟨decide (a=b),a=b,by simp only [eqD];exact if_pos (of_decide_eq_true e),by simp,h⟩
  ·exact h.elim
 ·rename_i a b
  exact⟨a==b,a=b,rfl,by simp,h⟩
 ·rename_i a b
  exact⟨a==b,a=b,rfl,by simp,h⟩
 ·exact h.elim
theorem yj1:∀(xs ys:List D) (K:Prop->Prop),yrd xs ys K->∃b p,eqL xs ys=some b/\(b=true↔p)/\K p
 | [],[],_,h=>⟨true,True,rfl,by simp,h⟩
 | [x],[y],K,h=>by
  obtain⟨a,p,h1,h2,h3⟩:=yqa x y _ h
  exact⟨a&&true,p,by simp only [eqL,h1],by simpa using h2,h3⟩
 | x::x2::r,y::y2::s,K,h=>by
  obtain⟨a,p,h1,h2,h3⟩:=yqa x y _ h
  obtain⟨b,q,h4,h5,h6⟩:=yj1 (x2::r) (y2::s) _ h3
  refine⟨a&&b,p/\q,?_,by simp [h2,h5],h6⟩
  rw [eqL,h1,h4]
 | [],_::_,_,h=>(by simp only [yrd] at h)
 | _::_,[],_,h=>(by simp only [yrd] at h)
 | [_],_::_::_,_,h=>(by simp only [yrd] at h)
 | _::_::_,[_],_,h=>(by simp only [yrd] at h)
def yu4 (ks:Option (List KK)) (x y:V) (K:Bool->Prop):Prop:=
 match ks with
 | none=>
  (match x,y with
  | .d (.bool a),.d (.bool b)=>K (a==b)
  | _,_=>False)
 | some ks=>
  (match x,y with
  | .d (.agg a),.d (.agg b)=>
   (match zch ks a&&zch ks b with
   | true=>yrd a b fun p=>Cmp p (K true) (K false)
   | false=>False)
  | _,_=>False)
theorem yrf (ks:Option (List KK)) (x y:V) (K:Bool->Prop) (h:yu4 ks x y K):∃b,eqV ks x y=some b/\K b:=by
 unfold yu4 at h
 split at h
 ·split at h
  ·exact⟨_,rfl,h⟩
  ·exact h.elim
 ·split at h
  ·split at h
   ·rename_i hk
    obtain⟨b,p,h1,h2,h3⟩:=yj1 _ _ _ h
    refine⟨b,by simp only [eqV];rw [if_pos hk];exact h1,?_⟩
    cases b with
    | true=>exact h3.yes (h2.1 rfl)
    | false=>exact h3.no fun hp=>Bool.noConfusion (h2.2 hp)
   ·exact h.elim
  ·exact h.elim
def yq9 (p:Prop) (K:D->Prop):Prop:=Cmp p (K (.bool true)) (K (.bool false))
theorem yjt {p:Prop} [Decidable p] {K:D->Prop} (h:yq9 p K):K (.bool (decide p)):=by
 by_cases hp:p
 ·have:=h.yes hp;simpa [hp] using this
 ·have:=h.no hp;simpa [hp] using this
def yru (p:Prop) (K:D->Prop):Prop:=Cmp p (K (.bool false)) (K (.bool true))
theorem yfw {p:Prop} [Decidable p] {K:D->Prop} (h:yru p K):K (.bool (!decide p)):=by
 by_cases hp:p
 ·have:=h.yes hp;simpa [hp] using this
 ·have:=h.no hp;simpa [hp] using this
def ybv (op:BinOp) (k:IntKind) (a b:Int) (K:D->Prop):Prop:=
 match op with
 | .add=>Wr k (a+b) fun n=>K (.int k n)
 | .sub=>Wr k (a-b) fun n=>K (.int k n)
 | .mul=>Wr k (a*b) fun n=>K (.int k n)
 | .quo=>Quo k a b fun n=>K (.int k n)
 | .rem=>Rem a b fun n=>K (.int k n)
 | .and=>K (.int k (k.wrap ((BitVec.ofInt k.bits a&&&BitVec.ofInt k.bits b).toNat)))
 | .or=>K (.int k (k.wrap ((BitVec.ofInt k.bits a|||BitVec.ofInt k.bits b).toNat)))
 | .xor=>K (.int k (k.wrap ((BitVec.ofInt k.bits a^^^BitVec.ofInt k.bits b).toNat)))
 | .andNot=>K (.int k (k.wrap ((BitVec.ofInt k.bits a&&&~~~ BitVec.ofInt k.bits b).toNat)))
 | .eql=>yq9 (a=b) K
 | .neq=>yru (a=b) K
 | .lss=>yq9 (a<b) K
 | .leq=>yq9 (a<=b) K
 | .gtr=>yq9 (b<a) K
 | .geq=>yq9 (b<=a) K
 | _=>False
theorem yg3 (op:BinOp) (k:IntKind) (a b:Int) (K:D->Prop) (h:ybv op k a b K):∃d,z07 op k a b=some d/\K d:=by
 cases op<;>simp only [ybv] at h<;>simp only [z07]
 all_goals first
  | exact⟨_,rfl,h.go⟩
  | exact⟨_,if_neg h.ne,h.go⟩
  | exact⟨_,rfl,h⟩
  | exact⟨_,rfl,yjt h⟩
  | exact⟨_,rfl,yfw h⟩
def ybw (op:BinOp) (a b:List UInt8) (K:D->Prop):Prop:=
 match op with
 | .add=>ze8 (a.length+b.length<=ykn) (K (.str (a++b)))
 | .eql=>yq9 (a=b) K
 | .neq=>yru (a=b) K
 | .lss=>K (.bool (ziw a b))
 | .leq=>K (.bool (ziw a b||a==b))
 | .gtr=>K (.bool (!(ziw a b||a==b)))
 | .geq=>K (.bool (!ziw a b))
 | _=>False
theorem yg4 (op:BinOp) (a b:List UInt8) (K:D->Prop) (h:ybw op a b K):∃d,z43 op a b=some d/\K d:=by
 have hb:(a==b)=decide (a=b):=by by_cases e:a=b<;>simp [e]
 cases op<;>simp only [ybw] at h<;>simp only [z43]
 all_goals first
  | exact⟨_,if_pos h.need,h.go⟩
  | exact⟨_,rfl,by rw [hb];exact yjt h⟩
  | exact⟨_,rfl,by rw [hb];exact yfw h⟩
  | exact⟨_,rfl,h⟩
def yu0 (op:BinOp) (x y:V) (K:D->Prop):Prop:=
 match x,y with
 | .d (.int k a),.d (.int l b)=>
  (match op with
  | .shl=>ze8 (0<=b) (Wr k (a*2^(min b.toNat k.bits)) fun n=>K (.int k n))
  | .shr=>ze8 (0<=b) (K (.int k (a.fdiv (2^(min b.toNat k.bits)))))
  | _=>(match decide (k=l) with
   | true=>ybv op k a b K
   | false=>False))
 | .d (.str a),.d (.str b)=>ybw op a b K
 | _,_=>False
theorem yq3 (op:BinOp) (x y:V) (K:D->Prop) (h:yu0 op x y K):∃d,ysu op x y=some d/\K d:=by
 unfold yu0 at h
 split at h
 ·simp only [ysu]
  split at h
  ·exact⟨_,if_pos h.need,h.go.go⟩
  ·exact⟨_,if_pos h.need,h.go⟩
  ·rename_i n1 n2
   split at h
   ·rename_i e
    obtain⟨d,h1,h2⟩:=yg3 _ _ _ _ _ h
    refine⟨d,?_,h2⟩
    cases op<;>first |exact(if_pos (of_decide_eq_true e)).trans h1|exact absurd rfl n1|exact absurd rfl n2
   ·exact h.elim
 ·exact yg4 _ _ _ _ h
 ·exact h.elim
def zwz (mx:Bool) (k:IntKind):Int->List V->(D->Prop)->Prop
 | a,[],K=>K (.int k a)
 | a,.d (.int _ b)::r,K=>
  (match mx with
  | true=>zwz mx k (if b>a then b else a) r K
  | false=>zwz mx k (if b<a then b else a) r K)
 | _,_::_,_=>False
def yct (mx:Bool) (l:List V) (K:D->Prop):Prop:=
 match l with
 | .d (.int k a)::r=>zwz mx k a r K
 | _=>False
theorem zuu (mx:Bool) (k:IntKind):∀(l:List V) (a:Int) (K:D->Prop),zwz mx k a l K->∃d,zqa.go mx k a l=some d/\K d
 | [],a,K,h=>⟨.int k a,rfl,h⟩
 | v::r,a,K,h=>by
  unfold zwz at h
  split at h
  ·rename_i e;cases e
  ·rename_i _ _ _ a' b r' K' e
   obtain⟨rfl,rfl⟩:=(List.cons.injEq ..).mp e
   simp only [zqa.go]
   cases mx with
   | true=>exact zuu true k r _ _ h
   | false=>exact zuu false k r _ _ h
  ·exact h.elim
theorem yhu (mx:Bool) (l:List V) (K:D->Prop) (h:yct mx l K):∃d,zqa mx l=some d/\K d:=by
 unfold yct at h
 split at h
 ·exact zuu mx _ _ _ K h
 ·exact h.elim
end Go.Evl
namespace Go.Evl
def yrr (nx:Nat):List Id->Bool
 | []=>true
 | i::r=>match Nat.blt i.lv nx with
  | true=>yrr nx r
  | false=>false
theorem z2j (nx:Nat):∀(l:List Id),yrr nx l=ziy nx l
 | []=>rfl
 | i::r=>by
  simp only [yrr]
  cases h:Nat.blt i.lv nx with
  | true=>
   have:i.lv<nx:=Nat.le_of_ble_eq_true h
   simp only [z2j nx r]
   simp [ziy,this]
  | false=>
   have:¬i.lv<nx:=fun hh=>by
    have:=Nat.ble_eq_true_of_le (show i.lv+1<=nx from hh)
    simp only [Nat.blt] at h
    rw [this] at h;cases h
   simp [ziy,this]
def ycq:Mem->(List Id->Prop)->Prop
 | [],K=>K []
 | (i,_)::r,K=>ycq r fun l=>K (i::l)
theorem zwu:∀(m:Mem) (K:List Id->Prop),ycq m K=K (zrf m)
 | [],_=>rfl
 | (i,o)::r,K=>by simp only [ycq,zwu r];rfl
def z42 (nx:Nat):Mem->(Mem->Prop)->Prop
 | [],K=>K []
 | (i,o)::r,K=>match Nat.blt i.lv nx with
  | true=>z42 nx r fun r'=>K ((i,o)::r')
  | false=>z42 nx r K
theorem zvi (nx:Nat):∀(m:Mem) (K:Mem->Prop),z42 nx m K=K (zdu nx m)
 | [],_=>rfl
 | (i,o)::r,K=>by
  simp only [z42]
  cases h:Nat.blt i.lv nx with
  | true=>
   have:i.lv<nx:=Nat.le_of_ble_eq_true h
   simp only [zvi nx r]
   simp [zdu,this]
  | false=>
   have:¬i.lv<nx:=fun hh=>by
    have:=Nat.ble_eq_true_of_le (show i.lv+1<=nx from hh)
    simp only [Nat.blt] at h
    rw [this] at h;cases h
   simp only [zvi nx r]
   simp [zdu,this]
def ybs (cx:Cx) (slot:Nat) (imm:Bool) (v:V) (m':Mem) (K:V->Mem->Prop):Prop:=z42 cx.nx m' fun old=>
 match yrr cx.nx (idsAll old) with
 | true=>(match imm with
  | true=>(match (ids v).all fun i=>Nat.ble cx.nx i.lv with
   | true=>yiu m' v fun r=>K r old
   | false=>False)
  | false=>zko (settle cx slot cx.nx old m' v) fun p=>K p.1 p.2)
 | false=>False
def ybz (E:Oracle) (cx:Cx) (slot:Nat) (shared imm:Bool) (f:V) (args:List V) (m:Mem) (K:V->Mem->Prop):Prop:=
 match shared with
 | false=>(match f with
  | .fn f first caps=>zsn false m (first ++args++caps) fun ds=>yqz ds fun vs=>
   (match imm with
   | true=>zae E f vs fun v=>K v m
   | false=>zg3 E f vs cx slot m K)
  | _=>False)
 | true=>ycq m fun ks=>(match yrr cx.nx ks with
  | true=>(match f with
   | .fn f first caps=>In E cx.nx f (first ++args++caps) m fun v m'=>ybs cx slot imm v m' K
   | .yld o=>Rnd E cx.nx o args m fun v m'=>ybs cx slot imm v m' K
   | _=>False)
  | false=>False)
section
variable {E : Oracle}
theorem z6q {cx:Cx} {slot:Nat} {imm:Bool} {v:V} {m':Mem} {K:V->Mem->Prop} (h:ybs cx slot imm v m' K):
  ∃p,(if ziy cx.nx (idsAll (zdu cx.nx m')) then znm cx slot cx.nx imm (zdu cx.nx m') m' v else none)=some p/\K p.1 p.2:=by
 simp only [ybs,zvi,z2j] at h
 split at h
 ·rename_i hl
  rw [if_pos hl]
  split at h
  ·split at h
   ·rename_i ha
    obtain⟨r,h1,h2⟩:=ygv _ _ _ h
    refine⟨(r,zdu cx.nx m'),?_,h2⟩
    have ha':((ids v).all fun i=>decide (cx.nx<=i.lv))=true:=by
     rw [List.all_eq_true] at ha ⊢
     intro i hi
     simpa using Nat.le_of_ble_eq_true (ha i hi)
    simp only [znm,if_true,ha',h1]
    rfl
   ·exact h.elim
  ·obtain⟨p,h1,h2⟩:=h.got
   exact⟨p,by simp only [znm];exact h1,h2⟩
 ·exact h.elim
theorem zwi {cx:Cx} {slot:Nat} {shared imm:Bool} {f:V} {args:List V} {m:Mem} {K:V->Mem->Prop} (h:ybz E cx slot shared imm f args m K):
  ∃p,zks E cx slot shared imm f args m=some p/\K p.1 p.2:=by
 unfold ybz at h
 split at h
 ·split at h
  ·rename_i f first caps
   obtain⟨ds,h1,h2⟩:=zmn _ _ _ _ h
   rw [z02] at h2
   simp only [zks,h1]
   split at h2
   ·obtain⟨r,⟨v,m',h3,h4⟩,h5⟩:=h2.got
    refine⟨(r,m),?_,h5⟩
    have hall:((ids v).all fun i=>decide (0<=i.lv))=true:=by simp
    simp only [h3,znm,hall,h4]
    rfl
   ·obtain⟨v,m',p,h3,h4,h5⟩:=h2.got
    refine⟨p,?_,h5⟩
    simp only [h3,znm,h4]
    rfl
  ·exact h.elim
 ·simp only [zwu,z2j] at h
  split at h
  ·rename_i hl
   simp only [zks,if_true,hl]
   split at h
   ·obtain⟨v,m',h1,h2⟩:=h.got
    simp only [zhn,h1]
    exact z6q h2
   ·obtain⟨v,m',h1,h2⟩:=h.got
    simp only [zhn,h1]
    exact z6q h2
   ·exact h.elim
  ·exact h.elim
structure zpq (key:D) (es:List (D×V)) (K:Option V->Prop):Prop where
 got:∃r,zf1 key es=some r/\K r
structure yi1 (key:D) (x:V) (es:List (D×V)) (K:List (D×V)->Prop):Prop where
 got:∃r,zqi key x es=some r/\K r
structure ztw (s:List UInt8) (pos:Nat) (some_:Int->Nat->Prop) (none_:Prop):Prop where
 yes:pos<s.length->some_ (Utf8.decode ⟨s.toArray⟩ pos).1 (Utf8.decode ⟨s.toArray⟩ pos).2
 no:¬pos<s.length->none_
def ycs (kk:KK) (zero:D) (ok:Bool) (m:Mem) (x key:V) (K:V->Prop):Prop:=
 match key with
 | .d key=>
  (match zhp kk key with
  | true=>(match x with
   | .mp o=>zkv m o fun ob=>
    match ob with
    | some (.map es)=>zpq key es fun r=>K (yow zero ok r)
    | _=>False
   | .d .nilm=>K (yow zero ok none)
   | _=>False)
  | false=>False)
 | _=>False
theorem yhs {kk:KK} {zero:D} {ok:Bool} {m:Mem} {x key:V} {K:V->Prop} (h:ycs kk zero ok m x key K):∃v,zoq kk zero ok m x key=some v/\K v:=by
 unfold ycs at h
 split at h
 ·split at h
  ·rename_i hk
   simp only [zoq,if_pos hk]
   split at h
   ·rw [zcu] at h
    split at h
    ·rename_i hl
     obtain⟨r,h1,h2⟩:=h.got
     exact⟨_,by simp only [hl,h1];rfl,h2⟩
    ·exact h.elim
   ·exact⟨_,rfl,h⟩
   ·exact h.elim
  ·exact h.elim
 ·exact h.elim
def yu9 (m:Mem) (x:V) (K:Nat->Bool->Prop):Prop:=
 match x with
 | .d .nilp=>K 0 true
 | .d .nilf=>K 4 true
 | .d .nili=>K 1 true
 | .d (.ifc true)=>K 1 false
 | .d .nilm=>K 3 true
 | .d (.fn _)=>K 4 false
 | .d (.list n _)=>ze8 (n≠0) (K 2 false)
 | .fn .. =>K 4 false
 | .lptr .. =>K 0 false
 | .ptr o _ top=>zkv m o fun ob=>
  match ob with
  | some (.cells ..)=>K 0 false
  | some (.row _ _ _ n _)=>ze8 (n=top) (K 0 false)
  | _=>False
 | .ref o off len top=>zkv m o fun ob=>
  match ob with
  | some (.row _ _ _ n _)=>ze8 (n=top/\off+len<=n/\len≠0) (K 2 false)
  | _=>False
 | _=>False
theorem yrv {m:Mem} {x:V} {K:Nat->Bool->Prop} (h:yu9 m x K):∃k b,ykt m x=some (k,b)/\K k b:=by
 unfold yu9 at h
 split at h
 ·exact⟨_,_,rfl,h⟩
 ·exact⟨_,_,rfl,h⟩
 ·exact⟨_,_,rfl,h⟩
 ·exact⟨_,_,rfl,h⟩
 ·exact⟨_,_,rfl,h⟩
 ·exact⟨_,_,rfl,h⟩
 ·rename_i n cs
  cases n with
  | zero=>exact absurd rfl h.need
  | succ n=>exact⟨_,_,rfl,h.go⟩
 ·exact⟨_,_,rfl,h⟩
 ·exact⟨_,_,rfl,h⟩
 ·rw [zcu] at h
  split at h
  ·rename_i hl;exact⟨_,_,by simp only [ykt,z8v,hl];rfl,h⟩
  ·rename_i hl;exact⟨_,_,by simp [ykt,z8v,hl,h.need],h.go⟩
  ·exact h.elim
 ·rw [zcu] at h
  split at h
  ·rename_i hl;exact⟨_,_,by simp only [ykt,hl];exact if_pos h.need,h.go⟩
  ·exact h.elim
 ·exact h.elim
def z7n (kk:KK) (m:Mem) (x key v:V) (K:V->Mem->Prop):Prop:=
 match x,key with
 | .mp o,.d key=>zkv m o fun ob=>
  (match ob with
  | some (.map es)=>(match zhp kk key&&(cellsOf v).isSome with
   | true=>yi1 key v es fun es'=>zqt m o (.map es') fun m'=>K .skip m'
   | false=>False)
  | _=>False)
 | _,_=>False
theorem z5q {kk:KK} {m:Mem} {x key v:V} {K:V->Mem->Prop} (h:z7n kk m x key v K):∃m',zh2 kk m x key v=some m'/\K .skip m':=by
 unfold z7n at h
 split at h
 ·rw [zcu] at h
  split at h
  ·rename_i hl
   split at h
   ·rename_i hb
    obtain⟨r,h1,h2⟩:=h.got
    rw [zcv] at h2
    exact⟨_,by simp only [zh2,hl,if_pos hb,h1];rfl,h2⟩
   ·exact h.elim
  ·exact h.elim
 ·exact h.elim
structure yux (E:Oracle) (f:V) (args:List V) (m:Mem) (K:V->Prop):Prop where
 got:∃v,zwg E f args m=some v/\K v
structure z3u (E:Oracle) (imm:Bool) (f:V) (args:List V) (m:Mem) (K:V->Mem->Prop):Prop where
 got:∃v m',zwh E imm f args m=some (v,m')/\K v m'
def yjo (E:Oracle) (f:V) (args:List V) (m:Mem) (K:V->Mem->Prop):Prop:=
 match f with
 | .fn f first caps=>zsn true m (first ++args++caps) fun ds=>yqz ds fun vs=>z3t E f vs fun v=>K v m
 | _=>False
theorem yjp {E:Oracle} {f:V} {args:List V} {m:Mem} {K:V->Mem->Prop} (h:yjo E f args m K):∃p,z1s E f args m=some p/\K p.1 p.2:=by
 unfold yjo at h
 split at h
 ·obtain⟨ds,h1,h2⟩:=zmn _ _ _ _ h
  rw [z02] at h2
  obtain⟨v,m',r,h3,h4,h5,h6⟩:=h2.got
  refine⟨(r,m),?_,h6⟩
  simp only [z1s,h1,h3,h5,Option.map_some]
  exact if_pos h4
 ·exact h.elim
def zi7 (E:Oracle) (cx:Cx) (slot:Nat) (e:Env) (m:Mem) (op:COp) (K:V->Mem->Prop):Prop:=
 match op with
 | .mv x=>opK e x fun v=>K v m
 | .ownNil r=>yhv cx slot m fun i=>zqt m i (.row r.wr r.t r.sz 0 []) fun m'=>K (.ref i 0 0 0) m'
 | .pick c a b=>opK e c fun c=>
  match c with
  | .d (.bool t)=>Br t (opK e a fun v=>K v m) (opK e b fun v=>K v m)
  | _=>False
 | .alloc t cs=>yco cx slot cs m fun vs m1=>yhv cx slot m1 fun i=>zqt m1 i (.cells t vs) fun m2=>K (.ptr i 0 0) m2
 | .box t x=>opK e x fun v=>z87 v fun cs=>yhv cx slot m fun i=>zqt m i (.cells t cs) fun m2=>K (.ptr i 0 0) m2
 | .build zero parts=>yco cx slot zero m fun vs m1=>yf3 e parts fun ps=>yrh vs ps fun cs=>yup cs fun v=>K v m1
 | .mkList sz n parts=>z9m e parts fun vs=>z92 sz m vs fun ds=>K (.d (.list n ds)) m
 | .mkListD sz n parts=>z9m e parts fun vs=>Chk (yfg vs) (z92 sz [] vs fun ds=>K (.d (.list n ds)) m)
 | .mkRow r n parts=>z9m e parts fun vs=>z92 r.sz m vs fun ds=>yhv cx slot m fun i=>zqt m i (.row r.wr r.t r.sz n ds) fun m2=>K (.ref i 0 n n) m2
 | .load n a=>opK e a fun a=>yol n m a fun v=>K v m
 | .store n a x=>opK e a fun a=>opK e x fun x=>ygt n m a x fun m'=>K .skip m'
 | .nilCheck x=>opK e x fun v=>
  match v with
  | .fn f a b=>K (.fn f a b) m
  | .d (.fn f)=>K (.fn f [] []) m
  | .lptr cs o=>K (.lptr cs o) m
  | .ptr o off top=>zkv m o fun ob=>
   match ob with
   | some (.cells ..)=>K (.ptr o off top) m
   | some (.row _ _ _ n _)=>ze8 (n=top) (K (.ptr o off top) m)
   | _=>False
  | _=>False
 | .bin op x y=>opK e x fun x=>opK e y fun y=>yu0 op x y fun d=>K (.d d) m
 | .eqv ks neg x y=>opK e x fun x=>opK e y fun y=>yu4 ks x y fun b=>
  match neg with
  | true=>K (.d (.bool (!b))) m
  | false=>K (.d (.bool b)) m
 | .un op x=>opK e x fun x=>
  match op,x with
  | .not,.d (.bool b)=>K (.d (.bool (!b))) m
  | .neg,.d (.int k n)=>Wr k (0-n) fun n=>K (.d (.int k n)) m
  | _,_=>False
 | .conv k x=>opK e x fun x=>
  match x with
  | .d (.int _ n)=>Wr k n fun n=>K (.d (.int k n)) m
  | _=>False
 | .mkFunc f first caps=>z9m e first fun a=>z9m e caps fun b=>K (.fn f a b) m
 | .makeRow r zero n=>opK e n fun n=>
  match n with
  | .d (.int _ n)=>ze8 (0<=n/\zero.length=r.sz/\n.toNat*r.by_<=140737488355328/\n.toNat<=140737488355328)
   (yhv cx slot m fun i=>zqt m i (.row r.wr r.t r.sz n.toNat (List.replicate n.toNat zero).flatten) fun m'=>K (.ref i 0 n.toNat n.toNat) m')
  | _=>False
 | .sliceS x lo hi=>opK e x fun x=>opK? e lo fun lo=>opK? e hi fun hi=>
  match x with
  | .d (.str s)=>zxn s.length lo hi fun l h=>K (.d (.str (win s l (h-l)))) m
  | _=>False
 | .slice sz x lo hi mx=>opK e x fun x=>opK? e lo fun lo=>opK? e hi fun hi=>opK? e mx fun mx=>yl9 sz m x lo hi mx fun v=>K v m
 | .fieldAddr off x=>opK e x fun x=>yon off m x fun v=>K v m
 | .field off n x=>opK e x fun x=>yoy n x off fun v=>K v m
 | .idxAddr sz x i=>opK e x fun x=>opK e i fun i=>z7e sz m x i fun v=>K v m
 | .idxAddrA len sz x i=>opK e x fun x=>opK e i fun i=>
  match i with
  | .d (.int _ i)=>ze8 (0<=i/\i<len) (yon (i.toNat*sz) m x fun v=>K v m)
  | _=>False
 | .idxS x i=>opK e x fun x=>opK e i fun i=>
  match x,i with
  | .d (.str s),.d (.int _ i)=>ze8 (0<=i) (ybm s i.toNat fun b=>K (.d (.int .u8 b.toNat)) m)
  | _,_=>False
 | .idxA len sz n x i=>opK e x fun x=>opK e i fun i=>
  match i with
  | .d (.int _ i)=>ze8 (0<=i/\i<len) (yoy n x (i.toNat*sz) fun v=>K v m)
  | _=>False
 | .mkMap=>yhv cx slot m fun i=>zqt m i (.map []) fun m'=>K (.mp i) m'
 | .lookup kk zero ok x key=>opK e x fun x=>opK e key fun key=>ycs kk zero ok m x key fun v=>K v m
 | .mapSet kk x key v=>opK e x fun x=>opK e key fun key=>opK e v fun v=>z7n kk m x key v K
 | .mapSetR kk x key v rs=>opK e x fun x=>opK e key fun key=>opK e v fun v=>yhk e rs fun vs=>Chk (yen x vs) (z7n kk m x key v K)
 | .callD f args=>opK e f fun f=>z9m e args fun vs=>
  match zpp f with
  | .fn g [] []=>Chk (yfg vs) (ybz E cx slot false true (.fn g [] []) vs m K)
  | _=>False
 | .callQ f args=>opK e f fun f=>z9m e args fun vs=>yux E (zpp f) vs m fun v=>K v m
 | .callU imm f args=>opK e f fun f=>z9m e args fun vs=>z3u E imm (zpp f) vs m K
 | .callZ f args=>opK e f fun f=>z9m e args fun vs=>yjo E (zpp f) vs m K
 | .callK imm f args=>opK e f fun f=>z9m e args fun vs=>ybz E cx slot true imm (zpp f) vs m fun v m'=>Chk (leM m m' m) (K v m)
 | .callN f args=>opK e f fun f=>z9m e args fun vs=>
  match zpp f with
  | .fn g [] []=>Chk (yfg vs) (ybz E cx slot false false (.fn g [] []) vs m K)
  | _=>False
 | .nilEq kd neg x=>opK e x fun x=>yu9 m x fun k b=>Chk (Nat.beq k kd) (K (.d (.bool (if neg then !b else b))) m)
 | .loadD n a=>opK e a fun a=>
  match a with
  | .lptr cs off=>yah n cs off fun v=>K v m
  | _=>False
 | .sliceC _ x hi mx=>opK e x fun x=>opK e hi fun hi=>opK e mx fun mx=>
  match x with
  | .d (.list n cs)=>(match hi with
   | .d (.int _ h)=>(match mx with
    | .d (.int _ k)=>ze8 (h=n/\k=n) (K (.cl n cs) m)
    | _=>False)
   | _=>False)
  | _=>False
 | .sealMv x=>opK e x fun v=>ysg m v fun m'=>K v m'
 | .fieldAddrD off x=>opK e x fun x=>
  match x with
  | .lptr cs b=>K (.lptr cs (b+off)) m
  | _=>False
 | .idxAddrD sz x i=>opK e x fun x=>opK e i fun i=>
  match x with
  | .d (.list n cs)=>(match i with
   | .d (.int _ i)=>ze8 (0<=i/\i<n) (K (.lptr cs (i.toNat*sz)) m)
   | _=>False)
  | _=>False
 | .appendIn r s x=>opK e s fun s=>opK e x fun x=>z5b m x fun k ds=>
  match s with
  | .ref o off len top=>zkv m o fun ob=>
   match ob with
   | some (.row true t sz n xs)=>ze8 (n=top/\off+len+k<=n/\off+len<n/\t=r.t/\sz=r.sz/\ds.length=k*sz)
    (zqt m o (.row true t sz n (patch xs ((off+len)*sz) ds)) fun m'=>K (.ref o off (len+k) top) m')
   | _=>False
  | _=>False
 | .rangeS x=>opK e x fun x=>
  match x with
  | .d (.str s)=>yhv cx slot m fun i=>zqt m i (.iter s 0) fun m'=>K (.it i) m'
  | _=>False
 | .nextS x=>opK e x fun x=>
  match x with
  | .it o=>zkv m o fun ob=>
   match ob with
   | some (.iter s pos)=>ztw s pos (fun c w=>zqt m o (.iter s (pos+w)) fun m'=>K (.tup [.d (.bool true),.d (.int .i64 pos),.d (.int .i32 c)]) m') (K (.tup [.d (.bool false)]) m)
   | _=>False
  | _=>False
 | .extract x i=>opK e x fun x=>
  match x with
  | .tup vs=>ygz vs i fun v=>K v m
  | _=>False
 | .call shared imm f args=>opK e f fun f=>z9m e args fun vs=>ybz E cx slot shared imm (zpp f) vs m K
 | .storeR n a x rs=>opK e a fun a=>opK e x fun x=>yhk e rs fun vs=>Chk (yeo a vs) (ygt n m a x fun m'=>K .skip m')
 | .bad=>False
 | .appendZ r zero s n=>opK e s fun s=>opK e n fun n=>
  match s,n with
  | .d .nil,.d (.int .i64 n)=>ze8 (0<n/\zero.length=r.sz/\n.toNat*r.by_<=140737488355328/\n.toNat<=140737488355328)
   (yhv cx slot m fun i=>zqt m i (.row r.wr r.t r.sz n.toNat (List.replicate n.toNat zero).flatten) fun m'=>K (.ref i 0 n.toNat n.toNat) m')
  | _,_=>False
 | .callB imm f args b=>∃p,zx8 (fun m=>zks E cx slot true imm (zpp (f.ev e)) (evs e args) m) m (get e b)=some p/\K p.1 p.2
 | .callR imm f args rs=>opK e f fun f=>z9m e args fun vs=>yhk e rs fun ws=>ybz E cx slot true imm (zpp f) vs m fun v m'=>Chk (z7i m m' ws) (K v m')
 | .len k x=>opK e x fun x=>yu8 m k x fun n=>K (.d (.int .i64 (n:Int))) m
 | .append r s x=>opK e s fun s=>opK e x fun x=>z5b m x fun k ds=>zu5 cx slot r m k ds s K
 | .appendF r s x=>opK e s fun s=>opK e x fun x=>z5b m x fun k ds=>zu5 cx slot r m k ds s fun v m'=>zgs false m' v fun d=>K (.d d) m'
 | .strB x=>opK e x fun x=>
  match x with
  | .d (.list 1 [.int .u8 n])=>K (.d (.str [UInt8.ofNat n.toNat])) m
  | _=>False
 | .appendS r s x=>opK e s fun s=>opK e x fun x=>
  match x,s with
  | .d (.str b),.ref o off len top=>zu5 cx slot r m b.length (yet b) (.ref o off len top) K
  | _,_=>False
 | .copy sz a b=>opK e a fun d=>opK e b fun s=>z5b m s fun k ds=>
  match d with
  | .ref o off len top=>zkv m o fun ob=>
   match ob with
   | some (.row true t sz' n xs)=>ze8 (n=top/\off+len<=n/\sz'=sz/\ds.length=k*sz)
    (zqt m o (.row true t sz' n (patch xs (off*sz) (ds.take (min k len*sz)))) fun m'=>K (.d (.int .i64 (min k len:Nat))) m')
   | _=>False
  | _=>False
 | .minmax mx args=>z9m e args fun vs=>yct mx vs fun d=>K (.d d) m
 | .clear zero x=>opK e x fun x=>zko (yex zero m x) fun m'=>K .skip m'
theorem yei {cx:Cx} {slot:Nat} {e:Env} {m:Mem} {op:COp} {K:V->Mem->Prop} (h:zi7 E cx slot e m op K):∃p,zca E cx slot e m op=some p/\K p.1 p.2:=by
 cases op with
 | mv x=>simp only [zi7,zbm] at h;exact⟨(_,_),rfl,h⟩
 | ownNil r=>simp only [zi7,zli,zcv] at h;exact⟨(_,_),rfl,h⟩
 | pick c a b=>
  simp only [zi7,zbm] at h
  simp only [zca]
  split at h
  ·rename_i t ht
   rw [ht]
   refine⟨(if t then a.ev e else b.ev e,m),rfl,?_⟩
   cases t with
   | true=>exact h.yes rfl
   | false=>exact h.no rfl
  ·exact h.elim
 | alloc t cs=>simp only [zi7,z0h,zli,zcv] at h;exact⟨(_,_),rfl,h⟩
 | box t x=>
  simp only [zi7,zbm] at h
  obtain⟨cs,h1,h2⟩:=z1t _ _ h
  simp only [zli,zcv] at h2
  exact⟨(_,_),by simp only [zca,h1],h2⟩
 | build zero parts=>
  simp only [zi7,z0h,yag] at h
  obtain⟨cs,h1,h2⟩:=ye4 _ _ _ h
  rw [yjb] at h2
  exact⟨(_,_),by simp only [zca,h1];rfl,h2⟩
 | mkList sz n parts=>
  simp only [zi7,zjg] at h
  obtain⟨cs,h1,h2⟩:=zwy _ _ _ _ h
  exact⟨(_,_),by simp only [zca,h1];rfl,h2⟩
 | mkListD sz n parts=>
  simp only [zi7,zjg] at h
  obtain⟨hc,h⟩:=h
  obtain⟨cs,h1,h2⟩:=zwy _ _ _ _ h
  exact⟨(_,_),by simp only [zca,hc,if_true,h1];rfl,h2⟩
 | mkRow r n parts=>
  simp only [zi7,zjg] at h
  obtain⟨cs,h1,h2⟩:=zwy _ _ _ _ h
  simp only [zli,zcv] at h2
  exact⟨(_,_),by simp only [zca,h1];rfl,h2⟩
 | load n a=>
  simp only [zi7,zbm] at h
  obtain⟨v,h1,h2⟩:=yfq _ _ _ _ h
  exact⟨(_,_),by simp only [zca,h1];rfl,h2⟩
 | store n a x=>
  simp only [zi7,zbm] at h
  obtain⟨v,h1,h2⟩:=ybb _ _ _ _ _ h
  exact⟨(_,_),by simp only [zca,h1];rfl,h2⟩
 | nilCheck x=>
  simp only [zi7,zbm] at h
  simp only [zca]
  split at h
  ·rename_i hx;rw [hx];exact⟨(_,_),rfl,h⟩
  ·rename_i hx;rw [hx];exact⟨(_,_),rfl,h⟩
  ·rename_i hx;rw [hx];exact⟨(_,_),rfl,h⟩
  ·rename_i hx;rw [hx]
   rw [zcu] at h
   split at h
   ·rename_i hl;exact⟨(_,_),by simp only [z8v,hl];rfl,h⟩
   ·rename_i hl;exact⟨(_,_),by simp [z8v,hl,h.need],h.go⟩
   ·exact h.elim
  ·exact h.elim
 | bin op x y=>
  simp only [zi7,zbm] at h
  obtain⟨v,h1,h2⟩:=yq3 _ _ _ _ h
  exact⟨(_,_),by simp only [zca,h1];rfl,h2⟩
 | eqv ks neg x y=>
  simp only [zi7,zbm] at h
  obtain⟨v,h1,h2⟩:=yrf _ _ _ _ h
  cases neg<;>exact⟨(_,_),by simp only [zca,h1];rfl,h2⟩
 | un op x=>
  simp only [zi7,zbm] at h
  simp only [zca]
  split at h
  ·rename_i hx;rw [hx];exact⟨(_,_),rfl,h⟩
  ·rename_i hx;rw [hx];exact⟨(_,_),rfl,h.go⟩
  ·exact h.elim
 | conv k x=>
  simp only [zi7,zbm] at h
  simp only [zca]
  split at h
  ·rename_i hx;rw [hx];exact⟨(_,_),rfl,h.go⟩
  ·exact h.elim
 | mkFunc f first caps=>simp only [zi7,zjg] at h;exact⟨(_,_),rfl,h⟩
 | makeRow r zero n=>
  simp only [zi7,zbm] at h
  simp only [zca]
  split at h
  ·rename_i hx;rw [hx]
   obtain⟨⟨h1,h2,h3,h4⟩,h5⟩:=h
   simp only [zli,zcv] at h5
   exact⟨(_,_),if_pos ⟨h1,h2,by simp [zw9,h3,h4]⟩,h5⟩
  ·exact h.elim
 | sliceS x lo hi=>
  simp only [zi7,zbm,opK?_eq] at h
  simp only [zca]
  split at h
  ·rename_i hx;rw [hx]
   obtain⟨p,h1,h2⟩:=zsk _ _ _ _ h
   obtain⟨l,hh⟩:=p
   simp only [h1]
   exact⟨(_,_),rfl,h2⟩
  ·exact h.elim
 | slice sz x lo hi mx=>
  simp only [zi7,zbm,opK?_eq] at h
  obtain⟨v,h1,h2⟩:=yma _ _ _ _ _ _ _ h
  exact⟨(_,_),by simp only [zca,h1];rfl,h2⟩
 | fieldAddr off x=>
  simp only [zi7,zbm] at h
  obtain⟨v,h1,h2⟩:=yfu _ _ _ _ h
  exact⟨(_,_),by simp only [zca,h1];rfl,h2⟩
 | field off n x=>
  simp only [zi7,zbm] at h
  obtain⟨v,h1,h2⟩:=yf2 _ _ _ _ h
  exact⟨(_,_),by simp only [zca,h1];rfl,h2⟩
 | idxAddr sz x i=>
  simp only [zi7,zbm] at h
  obtain⟨v,h1,h2⟩:=ycm _ _ _ _ _ h
  exact⟨(_,_),by simp only [zca,h1];rfl,h2⟩
 | idxAddrA len sz x i=>
  simp only [zi7,zbm] at h
  simp only [zca]
  split at h
  ·rename_i hx;rw [hx]
   obtain⟨h0,h⟩:=h
   obtain⟨v,h1,h2⟩:=yfu _ _ _ _ h
   simp only [asI,if_pos h0,h1]
   exact⟨(_,_),rfl,h2⟩
  ·exact h.elim
 | idxS x i=>
  simp only [zi7,zbm] at h
  simp only [zca]
  split at h
  ·rename_i hx hi;rw [hx,hi]
   obtain⟨h0,h⟩:=h
   obtain⟨b,h1,h2⟩:=h.got
   simp only [asI,if_pos h0,h1]
   exact⟨(_,_),rfl,h2⟩
  ·exact h.elim
 | idxA len sz n x i=>
  simp only [zi7,zbm] at h
  simp only [zca]
  split at h
  ·rename_i hx;rw [hx]
   obtain⟨h0,h⟩:=h
   obtain⟨v,h1,h2⟩:=yf2 _ _ _ _ h
   simp only [asI,if_pos h0,h1]
   exact⟨(_,_),rfl,h2⟩
  ·exact h.elim
 | mkMap=>simp only [zi7,zli,zcv] at h;exact⟨(_,_),rfl,h⟩
 | lookup kk zero ok x key=>
  simp only [zi7,zbm] at h
  obtain⟨v,h1,h2⟩:=yhs h
  exact⟨(_,_),by simp only [zca,h1];rfl,h2⟩
 | mapSet kk x key v=>
  simp only [zi7,zbm] at h
  obtain⟨m',h1,h2⟩:=z5q h
  exact⟨(_,_),by simp only [zca,h1];rfl,h2⟩
 | mapSetR kk x key v rs=>
  simp only [zi7,zbm,z0g] at h
  obtain⟨hc,h⟩:=h
  obtain⟨m',h1,h2⟩:=z5q h
  exact⟨(_,_),by simp only [zca,if_pos hc,h1];rfl,h2⟩
 | callK imm f args=>
  simp only [zi7,zbm,zjg] at h
  obtain⟨⟨v,m'⟩,h1,hc,h2⟩:=zwi h
  exact⟨(v,m),by simp only [zca,h1,if_pos hc],h2⟩
 | callQ f args=>
  simp only [zi7,zbm,zjg] at h
  obtain⟨v,h1,h2⟩:=h.got
  exact⟨(v,m),by simp only [zca,h1];rfl,h2⟩
 | callZ f args=>
  simp only [zi7,zbm,zjg] at h
  obtain⟨p,h1,h2⟩:=yjp h
  exact⟨p,by simp only [zca,h1],h2⟩
 | callU b f args=>
  simp only [zi7,zbm,zjg] at h
  obtain⟨v,m',h1,h2⟩:=h.got
  exact⟨(v,m'),by simp only [zca,h1],h2⟩
 | callN f args=>
  simp only [zi7,zbm,zjg] at h
  simp only [zca]
  split at h
  ·rename_i hf;rw [hf]
   obtain⟨hc,h⟩:=h
   obtain⟨p,h1,h2⟩:=zwi h
   exact⟨p,by simp only [hc,if_true];exact h1,h2⟩
  ·exact h.elim
 | callD f args=>
  simp only [zi7,zbm,zjg] at h
  simp only [zca]
  split at h
  ·rename_i hf;rw [hf]
   obtain⟨hc,h⟩:=h
   obtain⟨p,h1,h2⟩:=zwi h
   exact⟨p,by simp only [hc,if_true];exact h1,h2⟩
  ·exact h.elim
 | nilEq kd neg x=>
  simp only [zi7,zbm] at h
  obtain⟨k,b,h1,hc,h2⟩:=yrv h
  exact⟨(_,_),by simp only [zca,h1];exact if_pos (Nat.eq_of_beq_eq_true hc),h2⟩
 | loadD n a=>
  simp only [zi7,zbm] at h
  simp only [zca]
  split at h
  ·rename_i ha;rw [ha]
   obtain⟨v,h1,h2⟩:=zw4 _ _ _ _ h
   exact⟨(_,_),by simp only [h1];rfl,h2⟩
  ·exact h.elim
 | sliceC sz x hi mx=>
  simp only [zi7,zbm] at h
  simp only [zca]
  split at h
  ·rename_i hx;rw [hx]
   split at h
   ·rename_i hh;rw [hh]
    split at h
    ·rename_i hm;rw [hm]
     exact⟨(_,_),if_pos h.need,h.go⟩
    ·exact h.elim
   ·exact h.elim
  ·exact h.elim
 | sealMv x=>
  simp only [zi7,zbm] at h
  exact⟨(_,_),rfl,ypo _ _ _ h⟩
 | fieldAddrD off x=>
  simp only [zi7,zbm] at h
  simp only [zca]
  split at h
  ·rename_i hx;rw [hx]
   exact⟨(_,_),rfl,h⟩
  ·exact h.elim
 | idxAddrD sz x i=>
  simp only [zi7,zbm] at h
  simp only [zca]
  split at h
  ·rename_i hx;rw [hx]
   split at h
   ·rename_i hi;rw [hi]
    exact⟨(_,_),if_pos h.need,h.go⟩
   ·exact h.elim
  ·exact h.elim
 | appendIn r s x=>
  simp only [zi7,zbm] at h
  obtain⟨⟨k,ds⟩,h1,h2⟩:=zwn _ _ _ h
  simp only [zca,zu4,h1]
  split at h2
  ·rename_i hs;rw [hs]
   rw [zcu] at h2
   split at h2
   ·rename_i hl
    obtain⟨hc,h3⟩:=h2
    rw [zcv] at h3
    exact⟨(_,_),by simp only [hl];exact if_pos hc,h3⟩
   ·exact h2.elim
  ·exact h2.elim
 | rangeS x=>
  simp only [zi7,zbm] at h
  simp only [zca]
  split at h
  ·rename_i hx;rw [hx]
   simp only [zli,zcv] at h
   exact⟨(_,_),rfl,h⟩
  ·exact h.elim
 | nextS x=>
  simp only [zi7,zbm] at h
  simp only [zca]
  split at h
  ·rename_i hx;rw [hx]
   rw [zcu] at h
   split at h
   ·rename_i s pos hl
    simp only [zcv] at h
    simp only [yoo,hl]
    by_cases hp:pos<s.length
    ·exact⟨(_,_),if_pos hp,h.yes hp⟩
    ·exact⟨(_,_),if_neg hp,h.no hp⟩
   ·exact h.elim
  ·exact h.elim
 | extract x i=>
  simp only [zi7,zbm] at h
  simp only [zca]
  split at h
  ·rename_i hx;rw [hx]
   obtain⟨v,h1,h2⟩:=h.got
   exact⟨(_,_),by simp only [h1];rfl,h2⟩
  ·exact h.elim
 | call shared imm f args=>
  simp only [zi7,zbm,zjg] at h
  exact zwi h
 | storeR n a x rs=>
  simp only [zi7,zbm,z0g] at h
  obtain⟨hc,h⟩:=h
  obtain⟨v,h1,h2⟩:=ybb _ _ _ _ _ h
  exact⟨(_,_),by simp only [zca,if_pos hc,h1];rfl,h2⟩
 | callB imm f args b=>exact h
 | bad=>exact h.elim
 | appendZ r zero s n=>
  simp only [zi7,zbm] at h
  simp only [zca]
  split at h
  ·rename_i hs hn;rw [hs,hn]
   obtain⟨⟨h1,h2,h3,h4⟩,h5⟩:=h
   rw [zli,zcv] at h5
   exact⟨(_,_),if_pos ⟨h1,h2,by simp [zw9,h3,h4]⟩,h5⟩
  ·exact h.elim
 | callR imm f args rs=>
  simp only [zi7,zbm,zjg,z0g] at h
  obtain⟨⟨v,m'⟩,h1,hc,h2⟩:=zwi h
  exact⟨(v,m'),by simp only [zca,h1,if_pos hc],h2⟩
 | len k x=>
  simp only [zi7,zbm] at h
  obtain⟨v,h1,h2⟩:=yrq _ _ _ _ h
  exact⟨(_,_),by simp only [zca,h1];rfl,h2⟩
 | append r s x=>
  simp only [zi7,zbm] at h
  obtain⟨⟨k,ds⟩,h1,h2⟩:=zwn _ _ _ h
  simp only [zca,ztz,h1]
  exact zty _ _ _ _ _ _ _ _ h2
 | appendF r s x=>
  simp only [zi7,zbm] at h
  obtain⟨⟨k,ds⟩,h1,h2⟩:=zwn _ _ _ h
  obtain⟨⟨v,m'⟩,h3,h4⟩:=zty _ _ _ _ _ _ _ _ h2
  obtain⟨d,h5,h6⟩:=zpg _ _ _ _ h4
  exact⟨(_,_),by simp only [zca,ztz,h1,h3,h5];rfl,h6⟩
 | strB x=>
  simp only [zi7,zbm] at h
  simp only [zca]
  split at h
  ·rename_i hx;rw [hx];exact⟨(_,_),rfl,h⟩
  ·exact h.elim
 | appendS r s x=>
  simp only [zi7,zbm] at h
  simp only [zca]
  split at h
  ·rename_i hx hs;rw [hx,hs]
   simp only [zu6]
   exact zty _ _ _ _ _ _ _ _ h
  ·exact h.elim
 | copy sz a b=>
  simp only [zi7,zbm] at h
  obtain⟨⟨k,ds⟩,h1,h2⟩:=zwn _ _ _ h
  simp only [zca,ynv,h1]
  split at h2
  ·rename_i hx;rw [hx]
   rw [zcu] at h2
   split at h2
   ·rename_i hl;simp only [hl]
    rw [zcv] at h2
    exact⟨(_,_),if_pos h2.need,h2.go⟩
   ·exact h2.elim
  ·exact h2.elim
 | minmax mx args=>
  simp only [zi7,zjg] at h
  obtain⟨v,h1,h2⟩:=yhu _ _ _ h
  exact⟨(_,_),by simp only [zca,h1];rfl,h2⟩
 | clear zero x=>
  simp only [zi7,zbm] at h
  obtain⟨v,h1,h2⟩:=h.got
  exact⟨(_,_),by simp only [zca,h1];rfl,h2⟩
def ysn (E:Oracle) (cx:Cx) (e:Env) (m:Mem) (o:CO) (K:V->Mem->Prop):Prop:=
 match o with
 | ⟨dst,none,op⟩=>zi7 E cx (dst.getD 0) e m op K
 | ⟨dst,some (t,want),op⟩=>ym3 e t fun g=>
  match g with
  | .d (.bool b)=>(match want with
   | true=>Br b (zi7 E cx (dst.getD 0) e m op K) (K .skip m)
   | false=>Br b (K .skip m) (zi7 E cx (dst.getD 0) e m op K))
  | .skip=>K .skip m
  | _=>False
theorem ypw {cx:Cx} {e:Env} {m:Mem} {o:CO} {K:V->Mem->Prop} (h:ysn E cx e m o K):∃p,zdr E cx e m o=some p/\K p.1 p.2:=by
 obtain⟨dst,guard,op⟩:=o
 cases guard with
 | none=>exact yei h
 | some g=>
  obtain⟨t,want⟩:=g
  simp only [ysn,zr4] at h
  simp only [zdr]
  split at h
  ·rename_i b hb
   rw [hb]
   cases want<;>cases b
   ·exact yei (h.no rfl)
   ·exact⟨(_,_),rfl,h.yes rfl⟩
   ·exact⟨(_,_),rfl,h.no rfl⟩
   ·exact yei (h.yes rfl)
  ·rename_i hb;rw [hb];exact⟨(_,_),rfl,h⟩
  ·exact h.elim
def ymt (E:Oracle) (cx:Cx):List CO->Env->Mem->(Env->Mem->Prop)->Prop
 | [],e,m,K=>K e m
 | o::r,e,m,K=>ysn E cx e m o fun v m'=>put?K e o.dst v fun e'=>ymt E cx r e' m' K
theorem z0w {cx:Cx}:∀(os:List CO) (e:Env) (m:Mem) (K:Env->Mem->Prop),ymt E cx os e m K->∃p,zh7 E cx os e m=some p/\K p.1 p.2
 | [],e,m,K,h=>⟨(e,m),rfl,h⟩
 | o::r,e,m,K,h=>by
  obtain⟨⟨v,m'⟩,h1,h2⟩:=ypw h
  rw [put?K_eq] at h2
  obtain⟨p,h3,h4⟩:=z0w r _ _ K h2
  exact⟨p,by simp only [zh7,h1];exact h3,h4⟩
def yvw (K1:Env->Mem->Prop) (K:Ex->Env->Mem->Prop) (x:Ex) (e:Env) (m:Mem):Prop:=
 match x with
 | .normal=>K1 e m
 | .exit i=>K (.exit i) e m
 | .ret=>K .ret e m
def yp7 (id:Nat) (K:Ex->Env->Mem->Prop) (x:Ex) (e:Env) (m:Mem):Prop:=
 match x with
 | .normal=>K .normal e m
 | .exit j=>(match Nat.beq j id with
  | true=>K .normal e m
  | false=>K (.exit j) e m)
 | .ret=>K .ret e m
def yqi (cx:Cx) (i:Id) (e:Env) (K:Ex->Env->Mem->Prop) (m':Mem):Prop:=zkv m' i fun o=>
 match o with
 | some (.loop _ _ _ _ _ false _ j)=>z42 cx.nx m' fun mb=>
  (match yrr cx.nx (idsAll mb) with
  | true=>zqt mb i .gone fun m2=>
   (match j with
   | none=>K .normal e m2
   | some (.exit id)=>K (.exit id) e m2
   | some .ret=>K .ret e m2)
  | false=>False)
 | _=>False
def wpC (E:Oracle) (cx:Cx):C->Env->Mem->(Ex->Env->Mem->Prop)->Prop
 | .skip,e,m,K=>K .normal e m
 | .label,e,m,K=>K .normal e m
 | .reg _ ops kill,e,m,K=>ymt E cx ops e m fun e' m'=>zs3 kill e' fun e''=>K .normal e'' m'
 | .regC ops kill chk,e,m,K=>ymt E cx ops e m fun e' m'=>Chk (yrc e' chk) (zs3 kill e' fun e''=>K .normal e'' m')
 | .seq a b,e,m,K=>wpC E cx a e m (yvw (fun e' m'=>wpC E cx b e' m' K) K)
 | .cond c a b,e,m,K=>opK e c fun v=>
  match v with
  | .d (.bool t)=>Br t (wpC E cx a e m K) (wpC E cx b e m K)
  | _=>False
 | .block id c,e,m,K=>wpC E cx c e m (yp7 id K)
 | .loop live c,e,m,K=>yk6 e live fun e'=>ycq m fun ks=>gcK ks e' m fun m'=>zaf E cx live ks c e' m' K
 | .exit id,e,m,K=>K (.exit id) e m
 | .ret,e,m,K=>K .ret e m
 | .bad,_,_,_=>False
 | .scope c,e,m,K=>wpC E cx c e m K
 | .fz t c,e,m,K=>ym3 e t fun v=>zgs false m v fun d=>ys0 e t (.d d) fun e'=>wpC E cx c e' m K
 | .rangeM pre it x out nxt pair live ops kill code,e,m,K=>ymt E cx pre e m fun e1 m1=>
  ∃x' e' m',z23 (fun e m=>(zh7 E cx ops e m).bind fun q=>evC E cx code (zdb kill q.1) q.2) cx it x out nxt pair live e1 m1=some (x',e',m')/\K x' e' m'
 | .rangeFn slot f ps a b,e,m,K=>yhv cx slot m fun i=>zqt m i (.loop e ps a b cx.lv false false none) fun m1=>ycq m1 fun ks=>
  match yrr cx.nx ks with
  | true=>opK e f fun fv=>
   (match fv with
   | .fn g first caps=>In E cx.nx g (first ++[.yld i]++caps) m1 fun _ m'=>yqi cx i e K m'
   | _=>False)
  | false=>False
theorem zsg {cx:Cx}:∀(c:C) (e:Env) (m:Mem) (K:Ex->Env->Mem->Prop),wpC E cx c e m K->∃x e' m',evC E cx c e m=some (x,e',m')/\K x e' m'
 | .rangeM pre it x out nxt pair live ops kill code,e,m,K,h=>by
  obtain⟨p,h1,x',e',m',h2,h3⟩:=z0w pre e m _ h
  exact⟨x',e',m',by simp only [evC,h1,Option.bind_some,h2],h3⟩
 | .skip,e,m,K,h=>⟨_,_,_,rfl,h⟩
 | .label,e,m,K,h=>⟨_,_,_,rfl,h⟩
 | .exit _,e,m,K,h=>⟨_,_,_,rfl,h⟩
 | .ret,e,m,K,h=>⟨_,_,_,rfl,h⟩
 | .bad,_,_,_,h=>h.elim
 | .fz t c,e,m,K,h=>by
  simp only [wpC,zr4] at h
  obtain⟨d,hd,h⟩:=zpg _ _ _ _ h
  rw [z7y] at h
  obtain⟨x,e',m',h1,h2⟩:=zsg c _ m K h
  exact⟨x,e',m',by simp only [evC,hd];exact h1,h2⟩
 | .scope c,e,m,K,h=>by
  obtain⟨x,e',m',h1,h2⟩:=zsg c e m K h
  exact⟨x,e',m',by simp only [evC];exact h1,h2⟩
 | .reg _ ops kill,e,m,K,h=>by
  obtain⟨p,h1,h2⟩:=z0w ops e m _ h
  rw [zqk] at h2
  exact⟨_,_,_,by simp only [evC,h1];rfl,h2⟩
 | .regC ops kill chk,e,m,K,h=>by
  obtain⟨p,h1,hc,h2⟩:=z0w ops e m _ h
  rw [zqk] at h2
  exact⟨_,_,_,by simp only [evC,h1,Option.bind_some];exact if_pos hc,h2⟩
 | .seq a b,e,m,K,h=>by
  obtain⟨x,e',m',h1,h2⟩:=zsg a e m _ h
  cases x with
  | normal=>
   obtain⟨x2,e2,m2,h3,h4⟩:=zsg b e' m' K h2
   exact⟨x2,e2,m2,by simp only [evC,h1];exact h3,h4⟩
  | _=>exact⟨_,_,_,by simp only [evC,h1],h2⟩
 | .cond c a b,e,m,K,h=>by
  simp only [wpC,zbm] at h
  simp only [evC]
  split at h
  ·rename_i t ht
   rw [ht]
   cases t with
   | true=>
    obtain⟨x2,e2,m2,h3,h4⟩:=zsg a e m K (h.yes rfl)
    exact⟨x2,e2,m2,by simpa using h3,h4⟩
   | false=>
    obtain⟨x2,e2,m2,h3,h4⟩:=zsg b e m K (h.no rfl)
    exact⟨x2,e2,m2,by simpa using h3,h4⟩
  ·exact h.elim
 | .block id c,e,m,K,h=>by
  obtain⟨x,e',m',h1,h2⟩:=zsg c e m _ h
  cases x with
  | exit j=>
   simp only [yp7] at h2
   cases hb:Nat.beq j id with
   | true=>
    rw [hb] at h2
    exact⟨.normal,e',m',by simp only [evC,h1];exact if_pos (Nat.eq_of_beq_eq_true hb),h2⟩
   | false=>
    rw [hb] at h2
    have:j≠id:=fun hh=>by rw [hh,Nat.beq_refl] at hb;cases hb
    exact⟨.exit j,e',m',by simp only [evC,h1];exact if_neg this,h2⟩
  | _=>exact⟨_,_,_,by simp only [evC,h1],h2⟩
 | .loop live c,e,m,K,h=>by
  simp only [wpC,z7v,zwu,ykc] at h
  obtain⟨x,e',m',h1,h2⟩:=h.got
  exact⟨x,e',m',by simp only [evC,h1],h2⟩
 | .rangeFn slot f ps a b,e,m,K,h=>by
  simp only [wpC,zli,zcv,zwu,z2j,zbm] at h
  simp only [evC]
  split at h
  ·rename_i hl
   rw [if_pos hl]
   split at h
   ·rename_i hf
    rw [hf]
    obtain⟨v,m',h1,h2⟩:=h.got
    simp only [h1]
    simp only [yqi,zcu,zvi,z2j,zcv] at h2
    split at h2
    ·rename_i hlk
     simp only [hlk]
     split at h2
     ·rename_i hl2
      simp only [if_pos hl2]
      split at h2<;>exact⟨_,_,_,rfl,h2⟩
     ·exact h2.elim
    ·exact h2.elim
   ·exact h.elim
  ·exact h.elim
def yty (m:Mem) (e:Env) (r:RV) (K:V->Prop):Prop:=
 match r with
 | .tmp t=>ym3 e t K
 | .cell t n=>ym3 e t fun a=>yol n m a K
theorem ylo {m:Mem} {e:Env} {r:RV} {K:V->Prop} (h:yty m e r K):∃v,ytx m e r=some v/\K v:=by
 cases r with
 | tmp t=>simp only [yty,zr4] at h;exact⟨_,rfl,h⟩
 | cell t n=>simp only [yty,zr4] at h;exact yfq _ _ _ _ h
def yr7 (m:Mem) (e:Env):List RV->(List V->Prop)->Prop
 | [],K=>K []
 | r::q,K=>yty m e r fun v=>yr7 m e q fun vs=>K (v::vs)
theorem ygb {m:Mem} {e:Env}:∀(l:List RV) (K:List V->Prop),yr7 m e l K->∃vs,z4n m e l=some vs/\K vs
 | [],K,h=>⟨[],rfl,h⟩
 | r::q,K,h=>by
  obtain⟨v,h1,h2⟩:=ylo h
  obtain⟨vs,h3,h4⟩:=ygb q _ h2
  exact⟨v::vs,by simp only [z4n,h1,h3],h4⟩
def zw8 (m:Mem) (e:Env) (rs:List RV) (K:V->Prop):Prop:=
 match rs with
 | []=>K (.tup [])
 | [r]=>yty m e r K
 | r::r2::rs=>yr7 m e (r::r2::rs) fun vs=>K (.tup vs)
theorem z28 {m:Mem} {e:Env} {rs:List RV} {K:V->Prop} (h:zw8 m e rs K):∃v,results m e rs=some v/\K v:=by
 unfold zw8 at h
 split at h
 ·exact⟨_,rfl,h⟩
 ·exact ylo h
 ·obtain⟨vs,h1,h2⟩:=ygb _ _ h
  exact⟨_,by simp only [results,h1];rfl,h2⟩
def yu3 (rs:List RV) (K:V->Mem->Prop) (x:Ex) (e:Env) (m:Mem):Prop:=
 match x with
 | .normal=>zw8 m e rs fun v=>K v m
 | .ret=>zw8 m e rs fun v=>K v m
 | .exit _=>False
def yuu:Nat->List V->(Env->Prop)->Prop
 | _,[],K=>K []
 | i,v::r,K=>yuu (i+1) r fun e=>K ((i,v)::e)
theorem yk9:∀(i:Nat) (l:List V) (K:Env->Prop),yuu i l K=K (params i l)
 | _,[],_=>rfl
 | i,v::r,K=>by simp only [yuu,params,yk9 (i+1) r]
variable {Γ : Nat -> Option CF} {X : Extern}
def yjm (E:Oracle) (lv:Nat) (cf:CF) (args:List V) (m:Mem) (K:V->Mem->Prop):Prop:=yuu 0 args fun e=>wpC E ⟨lv,lv+1⟩ cf.body e m (yu3 cf.results K)
theorem In.enter (hE:Lim Γ X E) {lv f:Nat} {args:List V} {m:Mem} {K:V->Mem->Prop} {cf:CF} (hX:X f=none) (hc:Γ f=some cf) (h:yjm E lv cf args m K):In E lv f args m K:=by
 simp only [yjm,yk9] at h
 obtain⟨x,e',m',h1,h2⟩:=zsg _ _ _ _ h
 refine⟨?_⟩
 rw [hE.fix]
 simp only [step,hX,hc,h1]
 cases x with
 | normal=>
  simp only [yu3] at h2
  obtain⟨v,h3,h4⟩:=z28 h2
  exact⟨v,m',by simp only [h3];rfl,h4⟩
 | ret=>
  simp only [yu3] at h2
  obtain⟨v,h3,h4⟩:=z28 h2
  exact⟨v,m',by simp only [h3];rfl,h4⟩
 | exit i=>exact h2.elim
theorem Fc.enter (hE:Lim Γ X E) {f:Nat} {args:List V} {r:V} {cf:CF} (hX:X f=none) (hc:Γ f=some cf) (h:yjm E 0 cf args [] fun v m'=>yiu m' v fun d=>Ret d r):Fc E f args r:=by
 obtain⟨v,m',h1,h2⟩:=(In.enter hE hX hc h).got
 obtain⟨d,h3,h4⟩:=ygv _ _ _ h2
 exact⟨v,m',h1,by rw [h3,h4.eq]⟩
theorem Fc.extern (hE:Lim Γ X E) {f:Nat} {args:List V} {r v:V} {m':Mem} {x:List V->Mem->Option (V×Mem)} (hX:X f=some x) (h:x args []=some (v,m')) (ht:thaw m' v=some r):Fc E f args r:=
 ⟨v,m',by rw [hE.fix];simp only [step,hX,h];rfl,ht⟩
theorem In.extern (hE:Lim Γ X E) {lv f:Nat} {args:List V} {m:Mem} {K:V->Mem->Prop} {v:V} {m':Mem} {x:List V->Mem->Option (V×Mem)} (hX:X f=some x) (h:x args m=some (v,m')) (hk:K v m'):In E lv f args m K:=
 ⟨v,m',by rw [hE.fix];simp only [step,hX,h];rfl,hk⟩
theorem zae.of {f:Nat} {args:List V} {r:V} {K:V->Prop} (h:Fc E f args r) (hk:K r):zae E f args K:=⟨r,h,hk⟩
def z4w (E:Oracle) (cx:Cx) (live:List Nat) (keep:List Id) (body:C) (K:Ex->Env->Mem->Prop) (x:Ex) (e:Env) (m:Mem):Prop:=
 match x with
 | .normal=>yk6 e live fun e2=>gcK keep e2 m fun m2=>zaf E cx live keep body e2 m2 K
 | .exit i=>K (.exit i) e m
 | .ret=>K .ret e m
theorem zaf.step (hE:Lim Γ X E) {cx:Cx} {live:List Nat} {keep:List Id} {body:C} {e:Env} {m:Mem} {K:Ex->Env->Mem->Prop} (h:wpC E cx body e m (z4w E cx live keep body K)):zaf E cx live keep body e m K:=by
 obtain⟨x,e',m',h1,h2⟩:=zsg _ _ _ _ h
 refine⟨?_⟩
 rw [hE.fix]
 simp only [Go.Evl.step,h1]
 cases x with
 | normal=>
  simp only [z4w,z7v,ykc] at h2
  exact h2.got
 | exit i=>exact⟨_,_,_,rfl,h2⟩
 | ret=>exact⟨_,_,_,rfl,h2⟩
theorem zaf.mono {cx:Cx} {live:List Nat} {keep:List Id} {body:C} {e:Env} {m:Mem} {K K':Ex->Env->Mem->Prop} (h:zaf E cx live keep body e m K) (hk:∀x e m,K x e m->K' x e m):zaf E cx live keep body e m K':=by
 obtain⟨x,e',m',h1,h2⟩:=h.got
 exact⟨x,e',m',h1,hk _ _ _ h2⟩
def yuv:List Nat->List V->Env->(Env->Prop)->Prop
 | t::r,v::s,e,K=>ys0 e t v fun e'=>yuv r s e' K
 | [],_,e,K=>K e
 | _::_,[],e,K=>K e
theorem ymw:∀(ps:List Nat) (vs:List V) (e:Env) (K:Env->Prop),yuv ps vs e K=K (yso ps vs e)
 | [],[],e,K=>rfl
 | [],_::_,e,K=>rfl
 | _::_,[],e,K=>rfl
 | t::r,v::s,e,K=>by simp only [yuv,yso,z7y,ymw r s]
def ygd (o:Id) (ks:List Id) (K:V->Mem->Prop) (x:Ex) (_:Env) (m2:Mem):Prop:=zkv m2 o fun ob=>
 match ob with
 | some (.loop e' ps' a' b' lv' true false _)=>
  (match x with
  | .normal=>zqt m2 o (.loop e' ps' a' b' lv' false false none) fun m3=>gcK ks [] m3 fun m4=>K (.d (.bool true)) m4
  | .exit id=>zqt m2 o (.loop e' ps' a' b' lv' false true (some (.exit id))) fun m3=>K (.d (.bool false)) m3
  | .ret=>zqt m2 o (.loop e' ps' a' b' lv' false true (some .ret)) fun m3=>K (.d (.bool false)) m3)
 | _=>False
def yge (E:Oracle) (nx:Nat) (o:Id) (lv:Nat) (b:C) (ks:List Id) (K:V->Mem->Prop) (x:Ex) (e1:Env) (m1:Mem):Prop:=
 match x with
 | .normal=>zkv m1 o fun ob=>
  (match ob with
  | some (.loop e' ps' a' b' lv' false false j')=>zqt m1 o (.loop e' ps' a' b' lv' true false j') fun m2=>wpC E ⟨lv,nx⟩ b e1 m2 (ygd o ks K)
  | _=>False)
 | _=>False
def yqk (E:Oracle) (nx:Nat) (o:Id) (args:List V) (m:Mem) (K:V->Mem->Prop):Prop:=zkv m o fun ob=>
 match ob with
 | some (.loop e ps a b lv false false _)=>
  (match Nat.beq ps.length args.length with
  | true=>yuv ps args e fun e0=>ycq m fun ks=>wpC E ⟨lv,nx⟩ a e0 m (yge E nx o lv b ks K)
  | false=>False)
 | _=>False
theorem Rnd.enter (hE:Lim Γ X E) {nx:Nat} {o:Id} {args:List V} {m:Mem} {K:V->Mem->Prop} (h:yqk E nx o args m K):Rnd E nx o args m K:=by
 refine⟨?_⟩
 rw [hE.fix]
 simp only [yqk,zcu] at h
 simp only [Go.Evl.step]
 split at h
 ·rename_i hl
  simp only [hl]
  split at h
  ·rename_i hlen
   rw [if_pos (Nat.eq_of_beq_eq_true hlen)]
   simp only [ymw,zwu] at h
   obtain⟨x,e1,m1,h1,h2⟩:=zsg _ _ _ _ h
   simp only [h1]
   cases x with
   | normal=>
    simp only [yge,zcu] at h2
    split at h2
    ·rename_i hl1
     simp only [hl1]
     rw [zcv] at h2
     obtain⟨x,e2,m2,h3,h4⟩:=zsg _ _ _ _ h2
     simp only [h3]
     simp only [ygd,zcu] at h4
     split at h4
     ·rename_i hl2
      simp only [hl2]
      cases x with
      | normal=>
       simp only [zcv,ykc] at h4
       exact⟨_,_,rfl,h4⟩
      | exit i=>
       simp only [zcv] at h4
       exact⟨_,_,rfl,h4⟩
      | ret=>
       simp only [zcv] at h4
       exact⟨_,_,rfl,h4⟩
     ·exact h4.elim
    ·exact h2.elim
   | exit i=>exact h2.elim
   | ret=>exact h2.elim
  ·exact h.elim
 ·exact h.elim
end
end Go.Evl
