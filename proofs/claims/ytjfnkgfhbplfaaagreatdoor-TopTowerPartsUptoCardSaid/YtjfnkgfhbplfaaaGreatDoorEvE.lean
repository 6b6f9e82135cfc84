
/-
 The evaluator's limit, and what is to be shown for code to end well.
-/
import Derived.Test.YtjfnkgfhbplfaaaGreatDoorEvSyn
namespace Go.Evl
def Le (F G:Oracle):Prop:=∀q r,F q=some r->G q=some r
structure yay (It:Nat->Oracle) (E:Oracle):Prop where
 up:∀n,Le (It n) (It (n+1))
 lim:∀q r,E q=some r↔∃n,It n q=some r
theorem yay.le {It:Nat->Oracle} {E:Oracle} (h:yay It E) {n m:Nat} (hnm:n<=m):Le (It n) (It m):=by
 induction hnm with
 | refl=>exact fun _ _ h=>h
 | step _ ih=>exact fun q r hq=>h.up _ q r (ih q r hq)
structure zbi {α:Type} (It:Nat->Oracle) (E:Oracle) (f:Oracle->Option α):Prop where
 mono:∀F G,Le F G->∀r,f F=some r->f G=some r
 reach:∀r,f E=some r->∃n,f (It n)=some r
section
variable {It : Nat -> Oracle} {E : Oracle} {α β : Type}
theorem zbi.const {f:Oracle->Option α} (h:∀F G,f F=f G):zbi It E f:=
 ⟨fun F G _ _ hr=>(h G F).trans hr,fun _ hr=>⟨0,(h _ E).trans hr⟩⟩
theorem zbi.query (hc:yay It E) (q:Req):zbi It E (fun F=>F q):=
 ⟨fun _ _ h r hr=>h q r hr,fun r hr=>(hc.lim q r).1 hr⟩
theorem zbi.bind (hc:yay It E) {f:Oracle->Option α} {k:α->Oracle->Option β} (hf:zbi It E f) (hk:∀a,zbi It E (k a)):zbi It E (fun F=>(f F).bind fun a=>k a F):=by
 refine⟨fun F G h r hr=> ?_,fun r hr=> ?_⟩
 ·obtain⟨a,h1,h2⟩:=Option.bind_eq_some_iff.1 hr
  exact Option.bind_eq_some_iff.2 ⟨a,hf.mono F G h a h1,(hk a).mono F G h r h2⟩
 ·obtain⟨a,h1,h2⟩:=Option.bind_eq_some_iff.1 hr
  obtain⟨n,hn⟩:=hf.reach a h1
  obtain⟨k',hk'⟩:=(hk a).reach r h2
  refine⟨max n k',Option.bind_eq_some_iff.2 ⟨a,hf.mono _ _ (hc.le (Nat.le_max_left _ _)) a hn,(hk a).mono _ _ (hc.le (Nat.le_max_right _ _)) r hk'⟩⟩
theorem zbi.of_eq {f g:Oracle->Option α} (h:∀F,f F=g F) (hg:zbi It E g):zbi It E f:=by
 have:f=g:=funext h
 rw [this];exact hg
theorem zme {p:Prop} [Decidable p] {f g:Oracle->Option α} (hf:zbi It E f) (hg:zbi It E g):zbi It E (fun F=>if p then f F else g F):=by
 by_cases h:p
 ·exact zbi.of_eq (fun F=>if_pos h) hf
 ·exact zbi.of_eq (fun F=>if_neg h) hg
variable (hc : yay It E)
include hc
theorem z2x (cx:Cx) (f:V) (args:List V) (m:Mem):zbi It E (fun F=>zh1 F cx f args m):=by
 cases f with
 | fn f first caps=>
  refine zbi.of_eq (g:=fun F=>(F (.call cx.nx f (first ++args++caps) m)).bind fun r=>match r with| .val v m'=>some (v,m')|_=>none) (fun F=> ?_) (zbi.bind hc (zbi.query hc _) fun r=>zbi.const fun _ _=>rfl)
  simp only [zh1]
  cases F (.call cx.nx f (first ++args++caps) m) with
  | none=>rfl
  | some r=>cases r<;>rfl
 | yld o=>
  refine zbi.of_eq (g:=fun F=>(F (.round cx.nx o args m)).bind fun r=>match r with| .val v m'=>some (v,m')|_=>none) (fun F=> ?_) (zbi.bind hc (zbi.query hc _) fun r=>zbi.const fun _ _=>rfl)
  simp only [zh1]
  cases F (.round cx.nx o args m) with
  | none=>rfl
  | some r=>cases r<;>rfl
 | _=>exact zbi.const fun _ _=>rfl
theorem zmk (cx:Cx) (slot:Nat) (shared imm:Bool) (f:V) (args:List V) (m:Mem):zbi It E (fun F=>zlb F cx slot shared imm f args m):=by
 unfold zlb
 refine zme (zme ?_ (zbi.const fun _ _=>rfl)) ?_
 ·refine zbi.of_eq (g:=fun F=>(zh1 F cx f args m).bind fun p=>if zkn cx.nx (idsAll (zeb cx.nx p.2)) then zpo cx slot cx.nx imm (zeb cx.nx p.2) p.2 p.1 else none) (fun F=> ?_) (zbi.bind hc (z2x hc cx f args m) fun r=>zbi.const fun _ _=>rfl)
  cases zh1 F cx f args m<;>rfl
 ·cases f with
  | fn f first caps=>
   dsimp only
   generalize zdi false m (first ++args++caps)=o
   cases o with
   | none=>exact zbi.const fun _ _=>rfl
   | some ds=>
    refine zbi.of_eq (g:=fun F=>(F (.call 0 f (asV ds) [])).bind fun r=>match r with| .val v m'=>zpo cx slot 0 imm m m' v|_=>none) (fun F=> ?_) (zbi.bind hc (zbi.query hc _) fun r=>zbi.const fun _ _=>rfl)
    simp only
    cases F (.call 0 f (asV ds) []) with
    | none=>rfl
    | some r=>cases r<;>rfl
  | _=>exact zbi.const fun _ _=>rfl
theorem ybd (f:V) (args:List V) (m:Mem):zbi It E (fun F=>zzt F f args m):=by
 cases f with
 | fn f first caps=>
  simp only [zzt]
  refine zme ?_ (zbi.const fun _ _=>rfl)
  refine zbi.of_eq (g:=fun F=>(F (.call 1 f (renL (number ⟨0,0⟩ 0 0 (reach 0 m 64 (idsL (first ++args++caps)) [])) (first ++args++caps)) (moved (number ⟨0,0⟩ 0 0 (reach 0 m 64 (idsL (first ++args++caps)) [])) m (number ⟨0,0⟩ 0 0 (reach 0 m 64 (idsL (first ++args++caps)) []))))).bind fun r=>match r with
   | .val v m1=>if yfy m1 (moved (number ⟨0,0⟩ 0 0 (reach 0 m 64 (idsL (first ++args++caps)) [])) m (number ⟨0,0⟩ 0 0 (reach 0 m 64 (idsL (first ++args++caps)) [])))&&(ids v).all (fun i=>((number ⟨0,0⟩ 0 0 (reach 0 m 64 (idsL (first ++args++caps)) [])).map (·.2)).elem i) then some (ren (zrw (number ⟨0,0⟩ 0 0 (reach 0 m 64 (idsL (first ++args++caps)) []))) v) else none
   | _=>none) (fun F=> ?_) (zbi.bind hc (zbi.query hc _) fun r=>zbi.const fun _ _=>rfl)
  generalize number ⟨0,0⟩ 0 0 (reach 0 m 64 (idsL (first ++args++caps)) [])=σ
  cases F (.call 1 f (renL σ (first ++args++caps)) (moved σ m σ)) with
  | none=>rfl
  | some r=>cases r<;>rfl
 | _=>exact zbi.const fun _ _=>rfl
theorem ybe (imm:Bool) (f:V) (args:List V) (m:Mem):zbi It E (fun F=>z49 F imm f args m):=by
 cases f with
 | fn f first caps=>
  simp only [z49]
  refine zme ?_ (zbi.const fun _ _=>rfl)
  refine zbi.of_eq (g:=fun F=>(F (.call 1 f (renL (number ⟨0,0⟩ 0 0 (reach 0 m 64 (idsL ((first ++args++caps).map (z67 m))) [])) ((first ++args++caps).map (z67 m))) (moved (number ⟨0,0⟩ 0 0 (reach 0 m 64 (idsL ((first ++args++caps).map (z67 m))) [])) m (number ⟨0,0⟩ 0 0 (reach 0 m 64 (idsL ((first ++args++caps).map (z67 m))) []))))).bind fun r=>match r with
   | .val v m1=>
    if imm then
     if zkn 1 (ztx (moved (number ⟨0,0⟩ 0 0 (reach 0 m 64 (idsL ((first ++args++caps).map (z67 m))) [])) m (number ⟨0,0⟩ 0 0 (reach 0 m 64 (idsL ((first ++args++caps).map (z67 m))) []))))&&zkn 1 (idsAll (zeb 1 m1)) then
      match zpo ⟨0,1⟩ 0 1 true (zeb 1 m1) m1 v with
      | some (v',m2)=>if(ids v').all (fun i=>((number ⟨0,0⟩ 0 0 (reach 0 m 64 (idsL ((first ++args++caps).map (z67 m))) [])).map (·.2)).elem i) then(z6v (number ⟨0,0⟩ 0 0 (reach 0 m 64 (idsL ((first ++args++caps).map (z67 m))) [])) m2 (number ⟨0,0⟩ 0 0 (reach 0 m 64 (idsL ((first ++args++caps).map (z67 m))) [])) m).map fun m'=>(ren (zrw (number ⟨0,0⟩ 0 0 (reach 0 m 64 (idsL ((first ++args++caps).map (z67 m))) []))) v',m') else none
      | none=>none
     else none
    else if(ids v).all (fun i=>((number ⟨0,0⟩ 0 0 (reach 0 m 64 (idsL ((first ++args++caps).map (z67 m))) [])).map (·.2)).elem i) then(z6v (number ⟨0,0⟩ 0 0 (reach 0 m 64 (idsL ((first ++args++caps).map (z67 m))) [])) m1 (number ⟨0,0⟩ 0 0 (reach 0 m 64 (idsL ((first ++args++caps).map (z67 m))) [])) m).map fun m'=>(ren (zrw (number ⟨0,0⟩ 0 0 (reach 0 m 64 (idsL ((first ++args++caps).map (z67 m))) []))) v,m') else none
   | _=>none) (fun F=> ?_) (zbi.bind hc (zbi.query hc _) fun r=>zbi.const fun _ _=>rfl)
  generalize number ⟨0,0⟩ 0 0 (reach 0 m 64 (idsL ((first ++args++caps).map (z67 m))) [])=σ
  cases F (.call 1 f (renL σ ((first ++args++caps).map (z67 m))) (moved σ m σ)) with
  | none=>rfl
  | some r=>cases r<;>rfl
 | _=>exact zbi.const fun _ _=>rfl
theorem z2w {γ:Type} {run:Oracle->γ->Option α} (h:∀a,zbi It E (fun F=>run F a)):∀l:List γ,zbi It E (fun F=>yog (run F) l)
 | []=>zbi.const fun _ _=>rfl
 | a::r=>zbi.bind hc (h a) fun _=>zbi.bind hc (z2w h r) fun _=>zbi.const fun _ _=>rfl
theorem z83 {run:Oracle->Mem->Option (V×Mem)} (h:∀m,zbi It E (fun F=>run F m)) (m:Mem) (v:V):zbi It E (fun F=>zy5 (run F) m v):=by
 unfold zy5
 split
 ·split
  ·exact zme (zbi.bind hc (h _) fun _=>zbi.bind hc (z2w hc (fun _=>h _) _) fun _=>zbi.const fun _ _=>rfl) (zbi.const fun _ _=>rfl)
  ·exact h m
 ·exact h m
theorem zsz {body:Oracle->Env->Mem->Option (Ex×Env×Mem)} (h:∀e m,zbi It E (fun F=>body F e m)) (it:Nat) (i:Id) (out nxt pair:Nat) (live:List Nat) (keep:List Id):
  ∀(l:List (D×V)) (e:Env) (m:Mem),zbi It E (fun F=>zpd (body F) it i out nxt pair live keep l e m)
 | [],_,_=>zbi.const fun _ _=>rfl
 | (k,v)::r,e,m=>by
  refine zbi.bind hc (h _ _) fun p=> ?_
  unfold znj
  split
  ·exact zme (zsz h it i out nxt pair live keep r _ _) (zbi.const fun _ _=>rfl)
  ·exact zbi.const fun _ _=>rfl
theorem z85 {body:Oracle->Env->Mem->Option (Ex×Env×Mem)} (h:∀e m,zbi It E (fun F=>body F e m)) (cx:Cx) (it:Nat) (x:Opd) (out nxt pair:Nat) (live:List Nat) (e:Env) (m:Mem):
  zbi It E (fun F=>z3z (body F) cx it x out nxt pair live e m):=by
 unfold z3z
 split
 ·split
  ·exact zbi.bind hc (zbi.bind hc (zsz hc h _ _ _ _ _ _ _ _ _ _) fun _=>zbi.bind hc (z2w hc (fun _=>zsz hc h _ _ _ _ _ _ _ _ _ _) _) fun _=>zbi.const fun _ _=>rfl) fun _=>zbi.const fun _ _=>rfl
  ·exact zbi.const fun _ _=>rfl
 ·exact zbi.const fun _ _=>rfl
theorem z84 (cx:Cx) (slot:Nat) (e:Env) (m:Mem) (op:COp):zbi It E (fun F=>zbq F cx slot e m op):=by
 cases op with
 | call s i f args=>exact zmk hc cx slot s i _ _ m
 | callD f args=>
  simp only [zbq]
  split
  ·split
   ·exact zmk hc cx slot false true _ _ m
   ·exact zbi.const fun _ _=>rfl
  ·exact zbi.const fun _ _=>rfl
 | callK i f args=>
  refine zbi.of_eq (g:=fun F=>(zlb F cx slot true i (zr9 (f.ev e)) (evs e args) m).bind fun p=>if leM m p.2 m=true then some (p.1,m) else none) (fun F=> ?_) (zbi.bind hc (zmk hc cx slot true i _ _ m) fun p=>zbi.const fun _ _=>rfl)
  simp only [zbq]
  cases zlb F cx slot true i (zr9 (f.ev e)) (evs e args) m<;>rfl
 | callQ f args=>
  refine zbi.of_eq (g:=fun F=>(zzt F (zr9 (f.ev e)) (evs e args) m).bind fun v=>some (v,m)) (fun F=> ?_) (zbi.bind hc (ybd hc _ _ m) fun p=>zbi.const fun _ _=>rfl)
  simp only [zbq]
  cases zzt F (zr9 (f.ev e)) (evs e args) m<;>rfl
 | callU b f args=>exact ybe hc b _ _ m
 | callN f args=>
  simp only [zbq]
  split
  ·split
   ·exact zmk hc cx slot false false _ _ m
   ·exact zbi.const fun _ _=>rfl
  ·exact zbi.const fun _ _=>rfl
 | callB i f args b=>exact z83 hc (fun m=>zmk hc cx slot true i _ _ m) m _
 | callR i f args rs=>
  refine zbi.of_eq (g:=fun F=>(zlb F cx slot true i (zr9 (f.ev e)) (evs e args) m).bind fun p=>if ybo m p.2 (rs.map (get e))=true then some p else none) (fun F=> ?_) (zbi.bind hc (zmk hc cx slot true i _ _ m) fun p=>zbi.const fun _ _=>rfl)
  simp only [zbq]
  cases zlb F cx slot true i (zr9 (f.ev e)) (evs e args) m<;>rfl
 | _=>exact zbi.const fun _ _=>rfl
theorem yfn (cx:Cx) (e:Env) (m:Mem) (o:CO):zbi It E (fun F=>zdg F cx e m o):=by
 obtain⟨dst,guard,op⟩:=o
 cases guard with
 | none=>exact z84 hc cx _ e m op
 | some g=>
  obtain⟨t,want⟩:=g
  simp only [zdg]
  split
  ·split
   ·exact z84 hc cx _ e m op
   ·exact zbi.const fun _ _=>rfl
  ·exact zbi.const fun _ _=>rfl
  ·exact zbi.const fun _ _=>rfl
theorem zp9 (cx:Cx):∀(os:List CO) (e:Env) (m:Mem),zbi It E (fun F=>zim F cx os e m)
 | [],e,m=>zbi.const fun _ _=>rfl
 | o::r,e,m=>by
  refine zbi.of_eq (g:=fun F=>(zdg F cx e m o).bind fun p=>zim F cx r (put? e o.dst p.1) p.2) (fun F=> ?_) (zbi.bind hc (yfn hc cx e m o) fun p=>zp9 cx r _ _)
  simp only [zim]
  cases zdg F cx e m o<;>rfl
def yo8:Res->Option (Ex×Env×Mem)
 | .st x e' m'=>some (x,e',m')
 | _=>none
def ylq (cx:Cx) (i:Id) (e:Env):Res->Option (Ex×Env×Mem)
 | .val _ m'=>
  match look m' i with
  | some (.loop _ _ _ _ _ false _ j)=>
   if zkn cx.nx (idsAll (zeb cx.nx m')) then
    let m2:=upd (zeb cx.nx m') i .gone
    match j with
    | none=>some (.normal,e,m2)
    | some j=>some (j.ex,e,m2)
   else none
  | _=>none
 | _=>none
theorem ziy (cx:Cx):∀(c:C) (e:Env) (m:Mem),zbi It E (fun F=>evC F cx c e m)
 | .skip,e,m=>zbi.const fun _ _=>rfl
 | .label,e,m=>zbi.const fun _ _=>rfl
 | .exit _,e,m=>zbi.const fun _ _=>rfl
 | .ret,e,m=>zbi.const fun _ _=>rfl
 | .bad,e,m=>zbi.const fun _ _=>rfl
 | .scope c,e,m=>by simp only [evC];exact ziy cx c e m
 | .fz t c,e,m=>by
  simp only [evC]
  cases freeze false m (get e t) with
  | some d=>exact ziy cx c _ m
  | none=>exact zbi.const fun _ _=>rfl
 | .reg _ ops kill,e,m=>by
  refine zbi.of_eq (g:=fun F=>(zim F cx ops e m).bind fun p=>some (.normal,zdl kill p.1,p.2)) (fun F=> ?_) (zbi.bind hc (zp9 hc cx ops e m) fun p=>zbi.const fun _ _=>rfl)
  simp only [evC]
  cases zim F cx ops e m<;>rfl
 | .regC ops kill chk,e,m=>zbi.bind hc (zp9 hc cx ops e m) fun p=>zbi.const fun _ _=>rfl
 | .seq a b,e,m=>by
  refine zbi.of_eq (g:=fun F=>(evC F cx a e m).bind fun p=>match p with|(.normal,e',m')=>evC F cx b e' m'|p=>some p) (fun F=> ?_) (zbi.bind hc (ziy cx a e m) fun p=> ?_)
  ·simp only [evC]
   cases evC F cx a e m with
   | none=>rfl
   | some p=>obtain⟨x,e',m'⟩:=p;cases x<;>rfl
  ·obtain⟨x,e',m'⟩:=p
   cases x with
   | normal=>exact ziy cx b e' m'
   | _=>exact zbi.const fun _ _=>rfl
 | .cond c a b,e,m=>by
  simp only [evC]
  split
  ·exact zme (ziy cx a e m) (ziy cx b e m)
  ·exact zbi.const fun _ _=>rfl
 | .block id c,e,m=>by
  refine zbi.of_eq (g:=fun F=>(evC F cx c e m).bind fun p=>match p with|(.exit j,e',m')=>if j=id then some (.normal,e',m') else some (.exit j,e',m')|p=>some p) (fun F=> ?_) (zbi.bind hc (ziy cx c e m) fun p=>zbi.const fun _ _=>rfl)
  simp only [evC]
  cases evC F cx c e m with
  | none=>rfl
  | some p=>obtain⟨x,e',m'⟩:=p;cases x<;>rfl
 | .loop live c,e,m=>by
  refine zbi.of_eq (g:=fun F=>(F (.loop cx live (ztx m) c (only live e) (gc (ztx m) (only live e) m))).bind yo8) (fun F=> ?_) (zbi.bind hc (zbi.query hc _) fun p=>zbi.const fun _ _=>rfl)
  simp only [evC]
  cases F (.loop cx live (ztx m) c (only live e) (gc (ztx m) (only live e) m)) with
  | none=>rfl
  | some r=>cases r<;>rfl
 | .rangeM pre it x out nxt pair live ops kill code,e,m=>by
  simp only [evC]
  exact zbi.bind hc (zp9 hc cx pre e m) fun p=>z85 hc (fun e m=>zbi.bind hc (zp9 hc cx ops e m) fun q=>ziy cx code _ _) _ _ _ _ _ _ _ _ _
 | .rangeFn slot f ps a b,e,m=>by
  simp only [evC]
  refine zme ?_ (zbi.const fun _ _=>rfl)
  cases f.ev e with
  | fn g first caps=>
   refine zbi.of_eq (g:=fun F=>(F (.call cx.nx g (first ++[.yld (zb6 cx slot m)]++caps) (upd m (zb6 cx slot m) (.loop e ps a b cx.lv false false none)))).bind (ylq cx (zb6 cx slot m) e)) (fun F=> ?_) (zbi.bind hc (zbi.query hc _) fun p=>zbi.const fun _ _=>rfl)
   simp only
   cases F (.call cx.nx g (first ++[.yld (zb6 cx slot m)]++caps) (upd m (zb6 cx slot m) (.loop e ps a b cx.lv false false none))) with
   | none=>rfl
   | some r=>cases r<;>rfl
  | _=>exact zbi.const fun _ _=>rfl
theorem z86 (Γ:Nat->Option CF) (X:Extern) (q:Req):zbi It E (fun F=>step Γ X F q):=by
 cases q with
 | call lv f args m=>
  simp only [step]
  cases X f with
  | some x=>exact zbi.const fun _ _=>rfl
  | none=>
   cases Γ f with
   | none=>exact zbi.const fun _ _=>rfl
   | some cf=>
    refine zbi.of_eq (g:=fun F=>(evC F ⟨lv,lv+1⟩ cf.body (params 0 args) m).bind fun p=>match p with|(.normal,e,m')=>(results m' e cf.results).map fun v=> .val v m'|(.ret,e,m')=>(results m' e cf.results).map fun v=> .val v m'|_=>none) (fun F=> ?_) (zbi.bind hc (ziy hc _ _ _ _) fun p=>zbi.const fun _ _=>rfl)
    simp only
    cases evC F ⟨lv,lv+1⟩ cf.body (params 0 args) m with
    | none=>rfl
    | some p=>obtain⟨x,e',m'⟩:=p;cases x<;>rfl
 | round nx o args m=>
  simp only [step]
  split
  ·rename_i e ps a b lv j hl
   refine zme ?_ (zbi.const fun _ _=>rfl)
   refine zbi.of_eq (g:=fun F=>(evC F ⟨lv,nx⟩ a (yoe ps args e) m).bind fun p=>match p with
    | (.normal,e1,m1)=>(match look m1 o with
     | some (.loop e' ps' a' b' lv' false false j')=>(evC F ⟨lv,nx⟩ b e1 (upd m1 o (.loop e' ps' a' b' lv' true false j'))).bind fun p=>match p with
      | (x,_,m2)=>match look m2 o with
       | some (.loop e' ps' a' b' lv' true false _)=>(match x with
        | .normal=>some (.val (.d (.bool true)) (gc (ztx m) [] (upd m2 o (.loop e' ps' a' b' lv' false false none))))
        | .exit id=>some (.val (.d (.bool false)) (upd m2 o (.loop e' ps' a' b' lv' false true (some (.exit id)))))
        | .ret=>some (.val (.d (.bool false)) (upd m2 o (.loop e' ps' a' b' lv' false true (some .ret)))))
       | _=>none
     | _=>none)
    | _=>none) (fun F=> ?_) (zbi.bind hc (ziy hc _ _ _ _) fun p=> ?_)
   ·simp only
    cases evC F ⟨lv,nx⟩ a (yoe ps args e) m with
    | none=>rfl
    | some p=>
     obtain⟨x,e',m'⟩:=p
     cases x with
     | normal=>
      simp only [Option.bind]
      split
      ·rename_i e2 ps2 a2 b2 lv2 j2 hlk
       simp only [hlk]
       cases evC F ⟨lv,nx⟩ b e' (upd m' o (.loop e2 ps2 a2 b2 lv2 true false j2)) with
       | none=>rfl
       | some p=>rfl
      ·rename_i hno
       split
       ·rename_i hlk
        exact absurd hlk (hno _ _ _ _ _ _)
       ·rfl
     | exit id=>rfl
     | ret=>rfl
   ·obtain⟨x,e1,m1⟩:=p
    cases x with
    | normal=>
     simp only
     split
     ·exact zbi.bind hc (ziy hc _ _ _ _) fun p=>zbi.const fun _ _=>rfl
     ·exact zbi.const fun _ _=>rfl
    | _=>exact zbi.const fun _ _=>rfl
  ·exact zbi.const fun _ _=>rfl
 | loop cx live keep body e m=>
  simp only [step]
  refine zbi.of_eq (g:=fun F=>(evC F cx body e m).bind fun p=>match p with|(.normal,e',m')=>F (.loop cx live keep body (only live e') (gc keep (only live e') m'))|(x,e',m')=>some (.st x e' m')) (fun F=> ?_) (zbi.bind hc (ziy hc _ _ _ _) fun p=> ?_)
  ·cases evC F cx body e m with
   | none=>rfl
   | some p=>obtain⟨x,e',m'⟩:=p;cases x<;>rfl
  ·obtain⟨x,e',m'⟩:=p
   cases x with
   | normal=>exact zbi.query hc _
   | _=>exact zbi.const fun _ _=>rfl
end
structure Lim (Γ:Nat->Option CF) (X:Extern) (E:Oracle):Prop where
 fix:∀q,E q=step Γ X E q
 reach:∀q r,E q=some r->∃n,iter Γ X n q=some r
theorem z34 {Γ:Nat->Option CF} {X:Extern} {F G:Oracle} (h:Le F G):Le (step Γ X F) (step Γ X G):=by
 have hc:yay (fun _=>G) G:=⟨fun _ _ _ h=>h,fun _ _=>⟨fun h=>⟨0,h⟩,fun h=>h.elim fun _ h=>h⟩⟩
 exact fun q r hr=>(z86 hc Γ X q).mono F G h r hr
theorem ybn (Γ:Nat->Option CF) (X:Extern):∀n,Le (iter Γ X n) (iter Γ X (n+1))
 | 0=>fun _ _ h=>by simp [iter] at h
 | n+1=>z34 (ybn Γ X n)
theorem exists_lim (Γ:Nat->Option CF) (X:Extern):∃E,Lim Γ X E:=by
 have hd:∀q:Req,∃a:Option Res,∀r,a=some r↔∃n,iter Γ X n q=some r:=by
  intro q
  by_cases h:∃r,∃n,iter Γ X n q=some r
  ·obtain⟨r,n,hn⟩:=h
   refine⟨some r,fun r'=>⟨fun h=>⟨n,by rw [hn,h]⟩,fun⟨k,hk⟩=> ?_⟩⟩
   have up:∀a b,a<=b->Le (iter Γ X a) (iter Γ X b):=by
    intro a b hab
    induction hab with
    | refl=>exact fun _ _ h=>h
    | step _ ih=>exact fun q r hq=>ybn Γ X _ q r (ih q r hq)
   rw [<-up n (max n k) (Nat.le_max_left _ _) q r hn,up k (max n k) (Nat.le_max_right _ _) q r' hk]
  ·exact⟨none,fun r=>⟨fun h=>(nomatch h),fun hn=>absurd ⟨r,hn⟩ h⟩⟩
 have ⟨E,hE⟩:=Classical.axiomOfChoice hd
 have hc:yay (iter Γ X) E:=⟨ybn Γ X,hE⟩
 refine⟨E,⟨fun q=> ?_,fun q r h=>(hE q r).1 h⟩⟩
 apply Option.ext
 intro r
 constructor
 ·intro h
  obtain⟨n,hn⟩:=(hE q r).1 h
  cases n with
  | zero=>simp [iter] at hn
  | succ n=>exact z34 (fun q r h=>(hE q r).2 ⟨n,h⟩) q r hn
 ·intro h
  obtain⟨n,hn⟩:=(z86 hc Γ X q).reach r h
  exact(hE q r).2 ⟨n+1,hn⟩
theorem Lim.of_iter {Γ:Nat->Option CF} {X:Extern} {E:Oracle} (h:Lim Γ X E):∀(n:Nat) (q:Req) (r:Res),iter Γ X n q=some r->E q=some r
 | 0,_,_,hn=>by simp [iter] at hn
 | n+1,q,r,hn=>by
  rw [h.fix]
  exact z34 (fun q r=>h.of_iter n q r) q r hn
end Go.Evl
namespace Go.Evl
structure zki (p k:Prop):Prop where
 need:p
 go:k
structure Br (t:Bool) (a b:Prop):Prop where
 yes:t=true->a
 no:t=false->b
structure Cmp (p a b:Prop):Prop where
 yes:p->a
 no:¬p->b
structure Wr (k:IntKind) (x:Int) (K:Int->Prop):Prop where
 go:K (k.wrap x)
structure Rem (a b:Int) (K:Int->Prop):Prop where
 ne:b≠0
 go:K (a.tmod b)
structure Quo (k:IntKind) (a b:Int) (K:Int->Prop):Prop where
 ne:b≠0
 go:K (k.wrap (a.tdiv b))
structure zou (cs:List D) (off:Nat) (K:D->Prop):Prop where
 got:∃d,cs[off]? =some d/\K d
structure zqp (cs:List V) (off:Nat) (K:V->Prop):Prop where
 got:∃d,cs[off]? =some d/\K d
structure zcz (cs:List D) (off n:Nat) (K:List D->Prop):Prop where
 le:off+n<=cs.length
 go:K (win cs off n)
structure yg8 (s:List UInt8) (i:Nat) (K:UInt8->Prop):Prop where
 got:∃b,s[i]? =some b/\K b
structure ymx {α:Type} (o:Option α) (K:α->Prop):Prop where
 got:∃a,o=some a/\K a
def Fc (E:Oracle) (f:Nat) (args:List V) (r:V):Prop:=∃v m',E (.call 0 f args [])=some (.val v m')/\ye8 m' v=some r
structure zae (E:Oracle) (f:Nat) (args:List V) (K:V->Prop):Prop where
 got:∃r,Fc E f args r/\K r
structure zgx (E:Oracle) (f:Nat) (args:List V) (cx:Cx) (slot:Nat) (m:Mem) (K:V->Mem->Prop):Prop where
 got:∃v m' p,E (.call 0 f args [])=some (.val v m')/\settle cx slot 0 m m' v=some p/\K p.1 p.2
structure In (E:Oracle) (lv f:Nat) (args:List V) (m:Mem) (K:V->Mem->Prop):Prop where
 got:∃v m',E (.call lv f args m)=some (.val v m')/\K v m'
structure Rnd (E:Oracle) (nx:Nat) (o:Id) (args:List V) (m:Mem) (K:V->Mem->Prop):Prop where
 got:∃v m',E (.round nx o args m)=some (.val v m')/\K v m'
structure zad (E:Oracle) (cx:Cx) (live:List Nat) (keep:List Id) (body:C) (e:Env) (m:Mem) (K:Ex->Env->Mem->Prop):Prop where
 got:∃x e' m',E (.loop cx live keep body e m)=some (.st x e' m')/\K x e' m'
structure Chk (b:Bool) (k:Prop):Prop where
 need:b=true
 go:k
structure Ret (a b:V):Prop where
 eq:a=b
def ykm:Env->Nat->(V->Prop)->Prop
 | [],_,K=>K .undef
 | (u,v)::r,t,K=>match Nat.beq u t with
  | true=>K v
  | false=>ykm r t K
theorem zs8:∀(e:Env) (t:Nat) (K:V->Prop),ykm e t K=K (get e t)
 | [],_,_=>rfl
 | (u,v)::r,t,K=>by
  simp only [ykm,get]
  cases h:Nat.beq u t with
  | true=>simp [Nat.eq_of_beq_eq_true h]
  | false=>
   have:u≠t:=fun hh=>by rw [hh,Nat.beq_refl] at h;cases h
   simp only [if_neg this]
   exact zs8 r t K
def opK (e:Env) (x:Opd) (K:V->Prop):Prop:=
 match x with
 | .t n=>ykm e n K
 | .k v=>K v
theorem zbe (e:Env) (x:Opd) (K:V->Prop):opK e x K=K (x.ev e):=by
 cases x with
 | t n=>exact zs8 e n K
 | k v=>rfl
def yax (e:Env):List Opd->(List V->Prop)->Prop
 | [],K=>K []
 | x::r,K=>opK e x fun v=>yax e r fun vs=>K (v::vs)
theorem zky (e:Env):∀(l:List Opd) (K:List V->Prop),yax e l K=K (evs e l)
 | [],_=>rfl
 | x::r,K=>by simp only [yax,evs,zbe,zky e r]
def yfu (e:Env):List Nat->(List V->Prop)->Prop
 | [],K=>K []
 | t::r,K=>ykm e t fun v=>yfu e r fun vs=>K (v::vs)
theorem z1f (e:Env):∀(l:List Nat) (K:List V->Prop),yfu e l K=K (l.map (get e))
 | [],_=>rfl
 | t::r,K=>by simp only [yfu,zs8,z1f e r,List.map_cons]
def opK? (e:Env) (x:Option Opd) (K:Option V->Prop):Prop:=
 match x with
 | none=>K none
 | some x=>opK e x fun v=>K (some v)
theorem opK?_eq (e:Env) (x:Option Opd) (K:Option V->Prop):opK? e x K=K (x.map (·.ev e)):=by
 cases x with
 | none=>rfl
 | some x=>exact zbe e x _
def yom:Env->Nat->V->(Env->Prop)->Prop
 | [],t,v,K=>K [(t,v)]
 | (u,x)::r,t,v,K=>match Nat.beq u t with
  | true=>K ((t,v)::r)
  | false=>yom r t v fun r'=>K ((u,x)::r')
theorem z7w:∀(e:Env) (t:Nat) (v:V) (K:Env->Prop),yom e t v K=K (put e t v)
 | [],_,_,_=>rfl
 | (u,x)::r,t,v,K=>by
  simp only [yom,put]
  cases h:Nat.beq u t with
  | true=>simp [Nat.eq_of_beq_eq_true h]
  | false=>
   have:u≠t:=fun hh=>by rw [hh,Nat.beq_refl] at h;cases h
   simp only [if_neg this]
   exact z7w r t v _
def put?K (e:Env) (t:Option Nat) (v:V) (K:Env->Prop):Prop:=
 match t with
 | none=>K e
 | some t=>yom e t v K
theorem put?K_eq (e:Env) (t:Option Nat) (v:V) (K:Env->Prop):put?K e t v K=K (put? e t v):=by
 cases t with
 | none=>rfl
 | some t=>exact z7w e t v K
def yp0:List Nat->Nat->Bool
 | [],_=>false
 | u::r,t=>match Nat.beq u t with
  | true=>true
  | false=>yp0 r t
theorem yij:∀(l:List Nat) (t:Nat),yp0 l t=l.elem t
 | [],_=>rfl
 | u::r,t=>by
  simp only [yp0]
  cases h:Nat.beq u t with
  | true=>simp [Nat.eq_of_beq_eq_true h]
  | false=>
   have:t≠u:=fun hh=>by rw [hh,Nat.beq_refl] at h;cases h
   simp only [yij r t,List.elem_cons]
   have:(t==u)=false:=by simpa using this
   rw [this]
def zt7 (kill:List Nat):Env->(Env->Prop)->Prop
 | [],K=>K []
 | (u,v)::r,K=>match yp0 kill u with
  | true=>zt7 kill r K
  | false=>zt7 kill r fun r'=>K ((u,v)::r')
theorem zrl (kill:List Nat):∀(e:Env) (K:Env->Prop),zt7 kill e K=K (zdl kill e)
 | [],_=>rfl
 | (u,v)::r,K=>by
  simp only [zt7,yij]
  cases h:kill.elem u with
  | true=>
   have hm:u∈kill:=by simpa using h
   simp only [zrl kill r];simp [zdl,hm]
  | false=>
   have hm:u∉kill:=by simpa using h
   simp only [zrl kill r];simp [zdl,hm]
def yiz (e:Env):List Nat->(Env->Prop)->Prop
 | [],K=>K []
 | t::r,K=>ykm e t fun v=>yiz e r fun r'=>K ((t,v)::r')
theorem z7s (e:Env):∀(live:List Nat) (K:Env->Prop),yiz e live K=K (only live e)
 | [],_=>rfl
 | t::r,K=>by simp only [yiz,zs8,z7s e r];rfl
def idB (i j:Id):Bool:=
 match Nat.beq i.slot j.slot with
 | true=>(match Nat.beq i.lv j.lv with
  | true=>Nat.beq i.k j.k
  | false=>false)
 | false=>false
theorem z69 {i j:Id} (h:idB i j=true):i=j:=by
 obtain⟨a,b,c⟩:=i
 obtain⟨x,y,z⟩:=j
 simp only [idB] at h
 split at h
 ·rename_i h1
  split at h
  ·rename_i h2
   rw [Nat.eq_of_beq_eq_true h1,Nat.eq_of_beq_eq_true h2,Nat.eq_of_beq_eq_true h]
  ·cases h
 ·cases h
theorem z3d {i j:Id} (h:idB i j=false):i≠j:=by
 rintro rfl
 obtain⟨a,b,c⟩:=i
 simp [idB,Nat.beq_refl] at h
def zld:Mem->Id->(Option Ob->Prop)->Prop
 | [],_,K=>K none
 | (j,o)::r,i,K=>match idB j i with
  | true=>K (some o)
  | false=>zld r i K
theorem zcd:∀(m:Mem) (i:Id) (K:Option Ob->Prop),zld m i K=K (look m i)
 | [],_,_=>rfl
 | (j,o)::r,i,K=>by
  simp only [zld,look]
  cases h:idB j i with
  | true=>simp [z69 h]
  | false=>simp only [if_neg (z3d h)];exact zcd r i K
def zx5:Mem->Id->Ob->(Mem->Prop)->Prop
 | [],i,o,K=>K [(i,o)]
 | (j,x)::r,i,o,K=>match idB j i with
  | true=>K ((i,o)::r)
  | false=>zx5 r i o fun r'=>K ((j,x)::r')
theorem zc2:∀(m:Mem) (i:Id) (o:Ob) (K:Mem->Prop),zx5 m i o K=K (upd m i o)
 | [],_,_,_=>rfl
 | (j,x)::r,i,o,K=>by
  simp only [zx5,upd]
  cases h:idB j i with
  | true=>simp [z69 h]
  | false=>simp only [if_neg (z3d h)];exact zc2 r i o _
def yn5 (m:Mem) (v:V) (K:Mem->Prop):Prop:=
 match v with
 | .ref o _ _ _=>zld m o fun ob=>
  match ob with
  | some (.row true t sz n xs)=>zx5 m o (.row false t sz n xs) K
  | _=>K m
 | _=>K m
theorem ylz (m:Mem) (v:V) (K:Mem->Prop) (h:yn5 m v K):K (yjv m v):=by
 cases v with
 | ref o a b c=>
  simp only [yn5,zcd] at h
  simp only [yjv]
  cases hl:look m o with
  | none=>simp only [hl] at h;exact h
  | some ob=>
   simp only [hl] at h
   cases ob with
   | row wr t sz n xs=>
    cases wr with
    | true=>simp only [zc2] at h;exact h
    | false=>exact h
   | _=>exact h
 | _=>exact h
def yih:List Id->Id->Bool
 | [],_=>false
 | u::r,t=>match idB u t with
  | true=>true
  | false=>yih r t
theorem yii:∀(l:List Id) (t:Id),yih l t=l.elem t
 | [],_=>rfl
 | u::r,t=>by
  simp only [yih]
  cases h:idB u t with
  | true=>simp [z69 h]
  | false=>
   have h':t≠u:=fun hh=>z3d h hh.symm
   simp only [yii r t,List.elem_cons]
   have:(t==u)=false:=by simpa using h'
   rw [this]
def gcF (a b c:List Id):Mem->(Mem->Prop)->Prop
 | [],K=>K []
 | (i,o)::r,K=>match yih a i with
  | true=>gcF a b c r fun r'=>K ((i,o)::r')
  | false=>(match yih b i with
   | true=>gcF a b c r fun r'=>K ((i,o)::r')
   | false=>(match yih c i with
    | true=>gcF a b c r fun r'=>K ((i,o)::r')
    | false=>gcF a b c r K))
theorem ymj (a b c:List Id):∀(m:Mem) (K:Mem->Prop),gcF a b c m K=K (m.filter fun p=>a.elem p.1||b.elem p.1||c.elem p.1)
 | [],_=>rfl
 | (i,o)::r,K=>by
  simp only [gcF,yii]
  cases ha:a.elem i<;>cases hb:b.elem i<;>cases hc:c.elem i<;>simp only [ymj a b c r,List.filter_cons,ha,hb,hc]<;>rfl
def gcK (keep:List Id) (e:Env) (m:Mem) (K:Mem->Prop):Prop:=
 match m with
 | []=>K []
 | _::_=>gcF keep (yg4 e) (idsAll m) m fun m1=>gcF keep (yg4 e) (idsAll m1) m1 fun m2=>gcF keep (yg4 e) (idsAll m2) m2 K
theorem yh5 (keep:List Id) (e:Env) (m:Mem) (K:Mem->Prop):gcK keep e m K=K (gc keep e m):=by
 cases m with
 | nil=>rfl
 | cons p r=>simp only [gcK,ymj];rfl
def z5n (lv slot:Nat):Mem->(Nat->Prop)->Prop
 | [],K=>K 0
 | (j,_)::r,K=>match Nat.beq j.slot slot with
  | true=>(match Nat.beq j.lv lv with
   | true=>z5n lv slot r fun n=>K (max (j.k+1) n)
   | false=>z5n lv slot r K)
  | false=>z5n lv slot r K
theorem zxf (lv slot:Nat):∀(m:Mem) (K:Nat->Prop),z5n lv slot m K=K (freeK lv slot m)
 | [],_=>rfl
 | (j,o)::r,K=>by
  simp only [z5n,freeK]
  cases h1:Nat.beq j.slot slot with
  | false=>
   have:j.slot≠slot:=fun hh=>by rw [hh,Nat.beq_refl] at h1;cases h1
   simp only [this,and_false,if_false]
   exact zxf lv slot r K
  | true=>
   cases h2:Nat.beq j.lv lv with
   | false=>
    have:j.lv≠lv:=fun hh=>by rw [hh,Nat.beq_refl] at h2;cases h2
    simp only [this,false_and,if_false]
    exact zxf lv slot r K
   | true=>simp only [Nat.eq_of_beq_eq_true h1,Nat.eq_of_beq_eq_true h2,and_self,if_true,zxf lv slot r]
def yf6 (cx:Cx) (slot:Nat) (m:Mem) (K:Id->Prop):Prop:=z5n cx.lv slot m fun n=>K ⟨cx.lv,slot,n⟩
theorem zlz (cx:Cx) (slot:Nat) (m:Mem) (K:Id->Prop):yf6 cx slot m K=K (zb6 cx slot m):=zxf _ _ _ _
def z7f (cx:Cx) (slot:Nat):List yaz->Mem->(List V->Mem->Prop)->Prop
 | [],m,K=>K [] m
 | .z x::r,m,K=>z7f cx slot r m fun vs m'=>K (.d x::vs) m'
 | .own s::r,m,K=>yf6 cx slot m fun i=>zx5 m i (.row s.wr s.t s.sz 0 []) fun m1=>z7f cx slot r m1 fun vs m'=>K (.ref i 0 0 0::vs) m'
theorem z1g (cx:Cx) (slot:Nat):∀(l:List yaz) (m:Mem) (K:List V->Mem->Prop),z7f cx slot l m K=K (zax cx slot l m).1 (zax cx slot l m).2
 | [],_,_=>rfl
 | .z x::r,m,K=>by simp only [z7f,zax,z1g cx slot r]
 | .own s::r,m,K=>by simp only [z7f,zax,zlz,zc2,z1g cx slot r]
theorem z5q (cx:Cx) (slot n:Nat) (d:D) (m:Mem) (K:List V->Mem->Prop) (h:K (List.replicate n (.d d)) m):z7f cx slot (yp3 n d) m K:=by
 have key:∀(n:Nat) (K:List V->Mem->Prop),K (List.replicate n (.d d)) m->z7f cx slot (List.replicate n (.z d)) m K:=by
  intro n
  induction n with
  | zero=>exact fun K h=>h
  | succ n ih=>exact fun K h=>ih _ h
 unfold yp3
 exact key n K h
mutual
def zg2 (any:Bool) (m:Mem):V->(D->Prop)->Prop
 | .d x,K=>K x
 | .cl n cs,K=>K (.list n cs)
 | .agg cs,K=>zxg any m cs fun ds=>K (.agg ds)
 | .fn f [] [],K=>K (.fn f)
 | .ref o off len top,K=>zld m o fun x=>
  match x with
  | some (.row wr _ sz n xs)=>
   (match (!wr||any) with
   | true=>zki (n=top/\off+len<=n) (K (.list len (if off=0/\len=n then xs else win xs (off*sz) (len*sz))))
   | false=>False)
  | _=>False
 | _,_=>False
def zxg (any:Bool) (m:Mem):List V->(List D->Prop)->Prop
 | [],K=>K []
 | v::r,K=>zg2 any m v fun d=>zxg any m r fun ds=>K (d::ds)
end
mutual
theorem zqd (any:Bool) (m:Mem):∀(v:V) (K:D->Prop),zg2 any m v K->∃d,freeze any m v=some d/\K d
 | .d x,K,h=>⟨x,rfl,h⟩
 | .agg cs,K,h=>by
  obtain⟨ds,h1,h2⟩:=zra any m cs _ h
  exact⟨_,by simp only [freeze,h1];rfl,h2⟩
 | .ref o off len top,K,h=>by
  simp only [zg2,zcd] at h
  simp only [freeze]
  cases hl:look m o with
  | none=>rw [hl] at h;exact h.elim
  | some x=>
   rw [hl] at h
   cases x with
   | row wr t sz n xs=>
    simp only at h ⊢
    split at h
    ·rename_i hw
     have hc:(wr=false\/any=true)/\n=top/\off+len<=n:=⟨by cases wr<;>simp_all,h.need⟩
     exact⟨_,if_pos hc,h.go⟩
    ·exact h.elim
   | _=>exact h.elim
 | .tup _,_,h=>(by simp only [zg2] at h)
 | .ptr ..,_,h=>(by simp only [zg2] at h)
 | .lptr ..,_,h=>(by simp only [zg2] at h)
 | .cl n cs,K,h=>⟨_,rfl,h⟩
 | .fn f [] [],K,h=>⟨_,rfl,h⟩
 | .fn _ (_::_) _,_,h=>(by simp only [zg2] at h)
 | .fn _ [] (_::_),_,h=>(by simp only [zg2] at h)
 | .yld _,_,h=>(by simp only [zg2] at h)
 | .mp _,_,h=>(by simp only [zg2] at h)
 | .it _,_,h=>(by simp only [zg2] at h)
 | .skip,_,h=>(by simp only [zg2] at h)
 | .undef,_,h=>(by simp only [zg2] at h)
theorem zra (any:Bool) (m:Mem):∀(vs:List V) (K:List D->Prop),zxg any m vs K->∃ds,zdi any m vs=some ds/\K ds
 | [],K,h=>⟨[],rfl,h⟩
 | v::r,K,h=>by
  obtain⟨d,h1,h2⟩:=zqd any m v _ h
  obtain⟨ds,h3,h4⟩:=zra any m r _ h2
  exact⟨d::ds,by simp only [zdi,h1,h3],h4⟩
end
def yoh:List D->(List V->Prop)->Prop
 | [],K=>K []
 | x::r,K=>yoh r fun vs=>K (.d x::vs)
theorem z6u:∀(l:List D) (K:List V->Prop),yoh l K=K (asV l)
 | [],_=>rfl
 | x::r,K=>by simp only [yoh,asV,z6u r]
def yl6 (m:Mem) (v:V) (K:V->Prop):Prop:=
 match v with
 | .tup vs=>zxg true m vs fun xs=>yoh xs fun ys=>K (.tup ys)
 | v=>zg2 true m v fun d=>K (.d d)
theorem yfb (m:Mem) (v:V) (K:V->Prop) (h:yl6 m v K):∃r,ye8 m v=some r/\K r:=by
 have simple:∀v:V,(∀vs,v≠ .tup vs)->zg2 true m v (fun d=>K (.d d))->∃r,ye8 m v=some r/\K r:=by
  intro v hv h
  obtain⟨d,h1,h2⟩:=zqd true m v _ h
  refine⟨.d d,?_,h2⟩
  unfold ye8
  split
  ·rename_i vs;exact absurd rfl (hv vs)
  ·rw [h1];rfl
 cases v with
 | tup vs=>
  obtain⟨xs,h1,h2⟩:=zra true m vs _ h
  rw [z6u] at h2
  exact⟨_,by simp only [ye8,h1];rfl,h2⟩
 | _=>exact simple _ (by intro vs hh;cases hh) h
def ykr:List V->(Option (List D)->Prop)->Prop
 | [],K=>K (some [])
 | .d x::r,K=>ykr r fun o=>
  match o with
  | some ds=>K (some (x::ds))
  | none=>K none
 | _::_,K=>K none
theorem yc7:∀(l:List V) (K:Option (List D)->Prop),ykr l K=K (zt8 l)
 | [],_=>rfl
 | v::r,K=>by
  cases v with
  | d x=>simp only [ykr,zt8,yc7 r];cases zt8 r<;>rfl
  | _=>rfl
def ypv (cs:List V) (K:V->Prop):Prop:=ykr cs fun o=>
 match o with
 | some ds=>K (.d (.agg ds))
 | none=>K (.agg cs)
theorem yhc (cs:List V) (K:V->Prop):ypv cs K=K (ybt cs):=by
 simp only [ypv,yc7,ybt]
 cases zt8 cs<;>rfl
def z8w (v:V) (K:List V->Prop):Prop:=
 match v with
 | .d (.agg cs)=>yoh cs K
 | .agg cs=>K cs
 | .tup _=>False
 | .skip=>False
 | .undef=>False
 | v=>K [v]
theorem z2u (v:V) (K:List V->Prop) (h:z8w v K):∃cs,cellsOf v=some cs/\K cs:=by
 cases v with
 | d x=>
  cases x with
  | agg cs=>simp only [z8w,z6u] at h;exact⟨_,rfl,h⟩
  | _=>exact⟨_,rfl,h⟩
 | tup _=>exact h.elim
 | skip=>exact h.elim
 | undef=>exact h.elim
 | _=>exact⟨_,rfl,h⟩
def over {α:Type}:List α->Nat->List α->List α
 | cs,0,[]=>cs
 | _::cs,0,x::xs=>x::over cs 0 xs
 | c::cs,n+1,xs=>c::over cs n xs
 | [],_,_=>[]
theorem z9z {α:Type}:∀(cs xs:List α),xs.length<=cs.length->over cs 0 xs=xs++cs.drop xs.length
 | cs,[],_=>by simp [over]
 | [],x::xs,h=>by simp at h
 | c::cs,x::xs,h=>by
  simp only [over,z9z cs xs (by simpa using h)]
  simp
theorem z3u {α:Type}:∀(cs:List α) (off:Nat) (xs:List α),off+xs.length<=cs.length->over cs off xs=patch cs off xs
 | cs,0,xs,h=>by
  rw [z9z cs xs (by omega)]
  simp [patch]
 | [],n+1,xs,h=>by simp at h
 | c::cs,n+1,xs,h=>by
  simp only [over,z3u cs n xs (by simp at h;omega),patch]
  simp [Nat.add_right_comm]
def z00 {α:Type}:List α->Nat->List α->(List α->Prop)->Prop
 | cs,0,[],K=>K cs
 | _::cs,0,x::xs,K=>z00 cs 0 xs fun r=>K (x::r)
 | c::cs,n+1,xs,K=>z00 cs n xs fun r=>K (c::r)
 | [],_,_,K=>K []
theorem zt2 {α:Type}:∀(cs:List α) (off:Nat) (xs:List α) (K:List α->Prop),z00 cs off xs K=K (over cs off xs)
 | cs,0,[],K=>by simp only [z00,over]
 | [],0,x::xs,K=>by simp only [z00,over]
 | c::cs,0,x::xs,K=>by simp only [z00,over,zt2 cs 0 xs]
 | [],n+1,xs,K=>by simp only [z00,over]
 | c::cs,n+1,xs,K=>by simp only [z00,over,zt2 cs n xs]
def yna (cs:List V):List (Nat×Nat×V)->(List V->Prop)->Prop
 | [],K=>K cs
 | (off,n,v)::r,K=>z8w v fun xs=>
  match Nat.beq xs.length n with
  | true=>(match Nat.ble (off+n) cs.length with
   | true=>z00 cs off xs fun cs'=>yna cs' r K
   | false=>False)
  | false=>False
theorem ydo:∀(l:List (Nat×Nat×V)) (cs:List V) (K:List V->Prop),yna cs l K->∃cs',z9d cs l=some cs'/\K cs'
 | [],cs,K,h=>⟨cs,rfl,h⟩
 | (off,n,v)::r,cs,K,h=>by
  obtain⟨xs,h1,h2⟩:=z2u v _ h
  split at h2
  ·rename_i e1
   split at h2
   ·rename_i e2
    have e1':=Nat.eq_of_beq_eq_true e1
    have e2':=Nat.le_of_ble_eq_true e2
    rw [zt2] at h2
    obtain⟨cs',h3,h4⟩:=ydo r _ K h2
    refine⟨cs',?_,h4⟩
    simp only [z9d,h1]
    rw [if_pos ⟨e1',e2'⟩,<-z3u cs off xs (by omega)]
    exact h3
   ·exact h2.elim
  ·exact h2.elim
def yek (e:Env):List (Nat×Nat×Opd)->(List (Nat×Nat×V)->Prop)->Prop
 | [],K=>K []
 | (a,b,x)::r,K=>opK e x fun v=>yek e r fun l=>K ((a,b,v)::l)
theorem z90 (e:Env):∀(l:List (Nat×Nat×Opd)) (K:List (Nat×Nat×V)->Prop),yek e l K=K (zxr e l)
 | [],_=>rfl
 | (a,b,x)::r,K=>by simp only [yek,zxr,zbe,z90 e r]
def ya9 (m:Mem) (v:V) (K:List D->Prop):Prop:=zg2 false m v fun d=>
 match d with
 | .agg cs=>K cs
 | x=>K [x]
theorem z5a (m:Mem) (v:V) (K:List D->Prop) (h:ya9 m v K):∃cs,zrm m v=some cs/\K cs:=by
 obtain⟨d,h1,h2⟩:=zqd false m v _ h
 unfold zrm
 rw [h1]
 cases d<;>exact⟨_,rfl,h2⟩
def z9n (sz:Nat) (m:Mem):List V->(List D->Prop)->Prop
 | [],K=>K []
 | v::r,K=>ya9 m v fun x=>match Nat.beq x.length sz with
  | true=>z9n sz m r fun xs=>K (x++xs)
  | false=>False
theorem zxm (sz:Nat) (m:Mem):∀(l:List V) (K:List D->Prop),z9n sz m l K->∃ds,zr7 sz m l=some ds/\K ds
 | [],K,h=>⟨[],rfl,h⟩
 | v::r,K,h=>by
  obtain⟨x,h1,h2⟩:=z5a m v _ h
  split at h2
  ·rename_i e
   obtain⟨xs,h3,h4⟩:=zxm sz m r _ h2
   refine⟨x++xs,?_,h4⟩
   simp only [zr7,h1,h3,if_pos (Nat.eq_of_beq_eq_true e)]
  ·exact h2.elim
structure zpq (n:Nat) (l h:Int) (K:Nat->Nat->Prop):Prop where
 ok:0<=h/\h<=n/\0<=l/\l<=h
 go:K l.toNat h.toNat
def zyl (n:Nat) (lo hi:Option V) (K:Nat->Nat->Prop):Prop:=
 match lo,hi with
 | none,none=>K 0 n
 | some (.d (.int _ l)),none=>zpq n l n K
 | none,some (.d (.int _ h))=>zpq n 0 h K
 | some (.d (.int _ l)),some (.d (.int _ h))=>zpq n l h K
 | _,_=>False
theorem zts (n:Nat) (lo hi:Option V) (K:Nat->Nat->Prop) (h:zyl n lo hi K):∃p,zb2 n lo hi=some p/\K p.1 p.2:=by
 unfold zyl at h
 split at h
 ·refine⟨(0,n),?_,h⟩
  simp [zb2]
 ·rename_i k l
  refine⟨(l.toNat,(n:Int).toNat),?_,h.go⟩
  simp only [zb2,asI]
  exact if_pos h.ok
 ·rename_i k l
  refine⟨((0:Int).toNat,l.toNat),?_,h.go⟩
  simp only [zb2,asI]
  exact if_pos h.ok
 ·rename_i k l k' l'
  refine⟨(l.toNat,l'.toNat),?_,h.go⟩
  simp only [zb2,asI]
  exact if_pos h.ok
 ·exact h.elim
def yi7 (n:Option Nat) (cs:List V) (off:Nat) (K:V->Prop):Prop:=
 match n with
 | none=>zqp cs off K
 | some n=>zki (off+n<=cs.length) (ypv (win cs off n) K)
theorem z92 (n:Option Nat) (cs:List V) (off:Nat) (K:V->Prop) (h:yi7 n cs off K):∃v,yf9 n cs off=some v/\K v:=by
 cases n with
 | none=>obtain⟨d,h1,h2⟩:=h.got;exact⟨d,h1,h2⟩
 | some n=>obtain⟨h1,h2⟩:=h;rw [yhc] at h2;exact⟨_,if_pos h1,h2⟩
def z91 (n:Option Nat) (cs:List D) (off:Nat) (K:V->Prop):Prop:=
 match n with
 | none=>zou cs off fun d=>K (.d d)
 | some n=>zcz cs off n fun ds=>K (.d (.agg ds))
theorem zxt (n:Option Nat) (cs:List D) (off:Nat) (K:V->Prop) (h:z91 n cs off K):∃v,z4v n cs off=some v/\K v:=by
 cases n with
 | none=>obtain⟨d,h1,h2⟩:=h.got;exact⟨_,by simp only [z4v,h1];rfl,h2⟩
 | some n=>obtain⟨h1,h2⟩:=h;exact⟨_,if_pos h1,h2⟩
def ylc (n:Option Nat) (m:Mem) (a:V) (K:V->Prop):Prop:=
 match a with
 | .lptr cs off=>z91 n cs off K
 | .ptr o off top=>zld m o fun x=>
  match x with
  | some (.cells _ cs)=>yi7 n cs off K
  | some (.row _ _ _ l xs)=>zki (l=top) (z91 n xs off K)
  | _=>False
 | _=>False
theorem yd7 (n:Option Nat) (m:Mem) (a:V) (K:V->Prop) (h:ylc n m a K):∃v,z3k n m a=some v/\K v:=by
 unfold ylc at h
 split at h
 ·exact zxt _ _ _ _ h
 ·rename_i o off top
  rw [zcd] at h
  simp only [z3k]
  split at h
  ·rename_i hl;rw [hl];exact z92 _ _ _ _ h
  ·rename_i hl;rw [hl]
   obtain⟨v,h1,h2⟩:=zxt _ _ _ _ h.go
   exact⟨v,(if_pos h.need).trans h1,h2⟩
  ·exact h.elim
 ·exact h.elim
def ye6 (n:Nat) (m:Mem) (a x:V) (K:Mem->Prop):Prop:=
 match a with
 | .ptr o off top=>zld m o fun y=>
  match y with
  | some (.cells t cs)=>z8w x fun xs=>zki (xs.length=n/\off+n<=cs.length) (z00 cs off xs fun cs'=>zx5 m o (.cells t cs') K)
  | some (.row true t sz l xs)=>ya9 m x fun ds=>zki (ds.length=n/\off+n<=xs.length/\l=top) (zx5 m o (.row true t sz l (patch xs off ds)) K)
  | _=>False
 | _=>False
theorem yap (n:Nat) (m:Mem) (a x:V) (K:Mem->Prop) (h:ye6 n m a x K):∃m',zx2 n m a x=some m'/\K m':=by
 unfold ye6 at h
 split at h
 ·rename_i o off top
  rw [zcd] at h
  simp only [zx2]
  split at h
  ·rename_i hl;rw [hl]
   obtain⟨xs,h1,h2,h3⟩:=z2u x _ h
   rw [zt2,zc2,z3u _ _ _ (by omega)] at h3
   simp only [h1]
   exact⟨_,if_pos h2,h3⟩
  ·rename_i hl;rw [hl]
   obtain⟨ds,h1,h2,h3⟩:=z5a m x _ h
   rw [zc2] at h3
   simp only [h1]
   exact⟨_,if_pos h2,h3⟩
  ·exact h.elim
 ·exact h.elim
def yj1 (sz:Nat) (m:Mem) (x:V) (lo hi mx:Option V) (K:V->Prop):Prop:=
 match x with
 | .d (.list n cs)=>zyl n lo hi fun l h=>
  match mx with
  | none=>K (.d (.list (h-l) (win cs (l*sz) ((h-l)*sz))))
  | some _=>zki (hi.isSome/\mx.bind asI=hi.bind asI) (K (.d (.list (h-l) (win cs (l*sz) ((h-l)*sz)))))
 | .ref o off len top=>zld m o fun y=>
  match y with
  | some (.row wr _ sz' n xs)=>zki (n=top/\off+len<=n/\sz'=sz) (zyl len lo hi fun l h=>
   match mx with
   | none=>(match wr with
    | true=>K (.ref o (off+l) (h-l) top)
    | false=>K (.d (.list (h-l) (win xs ((off+l)*sz) ((h-l)*sz)))))
   | some _=>False)
  | _=>False
 | .d .nil=>zyl 0 lo hi fun _ _=>
  match mx with
  | none=>K (.d .nil)
  | some _=>False
 | _=>False
theorem yj2 (sz:Nat) (m:Mem) (x:V) (lo hi mx:Option V) (K:V->Prop) (h:yj1 sz m x lo hi mx K):∃v,zut sz m x lo hi mx=some v/\K v:=by
 unfold yj1 at h
 split at h
 ·obtain⟨p,h1,h2⟩:=zts _ _ _ _ h
  obtain⟨l,hh⟩:=p
  simp only [zut,h1]
  cases mx with
  | none=>exact⟨_,if_pos (Or.inl rfl),h2⟩
  | some y=>exact⟨_,if_pos (Or.inr h2.need),h2.go⟩
 ·rename_i o off len top
  rw [zcd] at h
  simp only [zut]
  split at h
  ·rename_i wr t1 sz1 n1 xs1 hl;rw [hl]
   obtain⟨h0,h⟩:=h
   obtain⟨p,h1,h2⟩:=zts _ _ _ _ h
   obtain⟨l,hh⟩:=p
   simp only [if_pos h0,h1]
   cases mx with
   | none=>
    cases wr with
    | true=>exact⟨_,by simp,h2⟩
    | false=>exact⟨_,by simp,h2⟩
   | some y=>exact h2.elim
  ·exact h.elim
 ·obtain⟨p,h1,h2⟩:=zts _ _ _ _ h
  simp only [zut,h1]
  cases mx with
  | none=>exact⟨_,if_pos rfl,h2⟩
  | some y=>exact h2.elim
 ·exact h.elim
def z7d (sz:Nat) (m:Mem) (x i:V) (K:V->Prop):Prop:=
 match i with
 | .d (.int _ i)=>
  (match x with
  | .d (.list n cs)=>zki (0<=i/\i<n) (K (.lptr cs (i.toNat*sz)))
  | .ref o off len top=>zld m o fun y=>
   match y with
   | some (.row _ _ sz' n _)=>zki (0<=i/\i<len/\n=top/\off+len<=n/\sz'=sz) (K (.ptr o ((off+i.toNat)*sz) top))
   | _=>False
  | _=>False)
 | _=>False
theorem ybm (sz:Nat) (m:Mem) (x i:V) (K:V->Prop) (h:z7d sz m x i K):∃v,zmg sz m x i=some v/\K v:=by
 unfold z7d at h
 split at h
 ·split at h
  ·exact⟨_,if_pos h.need,h.go⟩
  ·rw [zcd] at h
   split at h
   ·rename_i hl;simp only [zmg,asI,hl];exact⟨_,if_pos h.need,h.go⟩
   ·exact h.elim
  ·exact h.elim
 ·exact h.elim
def ylf (off:Nat) (m:Mem) (v:V) (K:V->Prop):Prop:=
 match v with
 | .lptr cs b=>K (.lptr cs (b+off))
 | .ptr o b top=>zld m o fun x=>
  match x with
  | some (.cells ..)=>K (.ptr o (b+off) top)
  | some (.row _ _ _ n _)=>zki (n=top) (K (.ptr o (b+off) top))
  | _=>False
 | _=>False
theorem yec (off:Nat) (m:Mem) (v:V) (K:V->Prop) (h:ylf off m v K):∃r,zf5 off m v=some r/\K r:=by
 unfold ylf at h
 split at h
 ·exact⟨_,rfl,h⟩
 ·rw [zcd] at h
  split at h
  ·rename_i hl;exact⟨_,by simp only [zf5,z8n,hl];rfl,h⟩
  ·rename_i hl;exact⟨_,by simp only [zf5,z8n,hl,h.need];simp,h.go⟩
  ·exact h.elim
 ·exact h.elim
def ylk (n:Option Nat) (x:V) (off:Nat) (K:V->Prop):Prop:=
 match x with
 | .d (.agg cs)=>z91 n cs off K
 | .agg cs=>yi7 n cs off K
 | _=>False
theorem yej (n:Option Nat) (x:V) (off:Nat) (K:V->Prop) (h:ylk n x off K):∃r,yb9 n x off=some r/\K r:=by
 unfold ylk at h
 split at h
 ·exact zxt _ _ _ _ h
 ·exact z92 _ _ _ _ h
 ·exact h.elim
def yqk (m:Mem) (k:Kd) (v:V) (K:Nat->Prop):Prop:=
 match k with
 | .str=>(match v with
  | .d (.str s)=>K s.length
  | _=>False)
 | .slc=>(match v with
  | .d (.list n _)=>K n
  | .d .nil=>K 0
  | .cl n _=>K n
  | .ref o _ len top=>zld m o fun x=>
   match x with
   | some (.row _ _ _ n _)=>zki (n=top) (K len)
   | _=>False
  | _=>False)
 | .map=>(match v with
  | .mp o=>zld m o fun x=>
   match x with
   | some (.map es)=>K es.length
   | _=>False
  | _=>False)
 | .cap=>(match v with
  | .d .nil=>K 0
  | _=>False)
theorem ynf (m:Mem) (k:Kd) (v:V) (K:Nat->Prop) (h:yqk m k v K):∃n,yg6 m k v=some n/\K n:=by
 unfold yqk at h
 split at h
 ·split at h
  ·exact⟨_,rfl,h⟩
  ·exact h.elim
 ·split at h
  ·exact⟨_,rfl,h⟩
  ·exact⟨_,rfl,h⟩
  ·exact⟨_,rfl,h⟩
  ·rw [zcd] at h
   split at h
   ·rename_i hl;exact⟨_,by simp only [yg6,hl];exact if_pos h.need,h.go⟩
   ·exact h.elim
  ·exact h.elim
 ·split at h
  ·rw [zcd] at h
   split at h
   ·rename_i hl;exact⟨_,by simp only [yg6,hl],h⟩
   ·exact h.elim
  ·exact h.elim
 ·split at h
  ·exact⟨_,rfl,h⟩
  ·exact h.elim
def z5h (m:Mem) (v:V) (K:Nat->List D->Prop):Prop:=
 match v with
 | .d (.list n cs)=>K n cs
 | .d .nil=>K 0 []
 | .ref o off len top=>zld m o fun x=>
  match x with
  | some (.row _ _ sz n xs)=>zki (n=top/\off+len<=n) (K len (if off=0/\len=n then xs else win xs (off*sz) (len*sz)))
  | _=>False
 | _=>False
theorem zw9 (m:Mem) (v:V) (K:Nat->List D->Prop) (h:z5h m v K):∃p,zzv m v=some p/\K p.1 p.2:=by
 unfold z5h at h
 split at h
 ·exact⟨_,rfl,h⟩
 ·exact⟨_,rfl,h⟩
 ·rw [zcd] at h
  split at h
  ·rename_i hl;exact⟨_,by simp only [zzv,hl];exact if_pos h.need,h.go⟩
  ·exact h.elim
 ·exact h.elim
def zvy (cx:Cx) (slot:Nat) (r:zb8) (m:Mem) (k:Nat) (ds:List D) (s:V) (K:V->Mem->Prop):Prop:=
 match s with
 | .ref o off len top=>zld m o fun x=>
  match x with
  | some (.row wr t sz n xs)=>
   zki (off=0/\len=n/\n=top/\t=r.t/\sz=r.sz/\ds.length=k*sz/\(n+k)*r.by_<=140737488355328/\n+k<=140737488355328)
    (zx5 m o (.row wr t sz (n+k) (xs++ds)) fun m'=>K (.ref o 0 (n+k) (n+k)) m')
  | _=>False
 | .d .nil=>zki (k≠0/\ds.length=k*r.sz/\k*r.by_<=140737488355328/\k<=140737488355328) (yf6 cx slot m fun i=>zx5 m i (.row r.wr r.t r.sz k ds) fun m'=>K (.ref i 0 k k) m')
 | .cl n cs=>zki (k≠0/\ds.length=k*r.sz/\cs.length=n*r.sz/\(n+k)*r.by_<=140737488355328/\n+k<=140737488355328) (yf6 cx slot m fun i=>zx5 m i (.row r.wr r.t r.sz (n+k) (cs++ds)) fun m'=>K (.ref i 0 (n+k) (n+k)) m')
 | _=>False
theorem zuv (cx:Cx) (slot:Nat) (r:zb8) (m:Mem) (k:Nat) (ds:List D) (s:V) (K:V->Mem->Prop) (h:zvy cx slot r m k ds s K):
  ∃p,zov cx slot r m (some (k,ds)) s=some p/\K p.1 p.2:=by
 unfold zvy at h
 split at h
 ·rw [zcd] at h
  split at h
  ·rename_i hl
   obtain⟨⟨h1,h2,h3,h4,h5,h6,h7,h8⟩,h9⟩:=h
   rw [zc2] at h9
   refine⟨(_,_),?_,h9⟩
   simp only [zov,hl]
   exact if_pos ⟨h1,h2,h3,h4,h5,h6,by simp [zxv,h7,h8]⟩
  ·exact h.elim
 ·obtain⟨⟨h1,h2,h3,h4⟩,h9⟩:=h
  rw [zlz,zc2] at h9
  refine⟨(_,_),?_,h9⟩
  simp only [zov]
  exact if_pos ⟨h1,h2,by simp [zxv,h3,h4]⟩
 ·obtain⟨⟨h1,h2,h0,h3,h4⟩,h9⟩:=h
  rw [zlz,zc2] at h9
  refine⟨(_,_),?_,h9⟩
  simp only [zov]
  exact if_pos ⟨h1,h2,h0,by simp [zxv,h3,h4]⟩
 ·exact h.elim
def eqB:D->D->(Prop->Prop)->Prop
 | .int k a,.int l b,K=>(match decide (k=l) with
  | true=>K (a=b)
  | false=>False)
 | .bool a,.bool b,K=>K (a=b)
 | .str a,.str b,K=>K (a=b)
 | _,_,_=>False
def ym6:List D->List D->(Prop->Prop)->Prop
 | [],[],K=>K True
 | [x],[y],K=>eqB x y K
 | x::x2::r,y::y2::s,K=>eqB x y fun p=>ym6 (x2::r) (y2::s) fun q=>K (p/\q)
 | _,_,_=>False
theorem ymg (x y:D) (K:Prop->Prop) (h:eqB x y K):∃b p,eqD x y=some b/\(b=true↔p)/\K p:=by
 unfold eqB at h
 split at h
 ·split at h
  ·rename_i a _ b _ e
   exact⟨decide (a=b),a=b,by simp only [eqD];exact if_pos (of_decide_eq_true e),by simp,h⟩
  ·exact h.elim
 ·rename_i a b
  exact⟨a==b,a=b,rfl,by simp,h⟩
 ·rename_i a b
  exact⟨a==b,a=b,rfl,by simp,h⟩
 ·exact h.elim
theorem yhw:∀(xs ys:List D) (K:Prop->Prop),ym6 xs ys K->∃b p,eqL xs ys=some b/\(b=true↔p)/\K p
 | [],[],_,h=>⟨true,True,rfl,by simp,h⟩
 | [x],[y],K,h=>by
  obtain⟨a,p,h1,h2,h3⟩:=ymg x y _ h
  exact⟨a&&true,p,by simp only [eqL,h1],by simpa using h2,h3⟩
 | x::x2::r,y::y2::s,K,h=>by
  obtain⟨a,p,h1,h2,h3⟩:=ymg x y _ h
  obtain⟨b,q,h4,h5,h6⟩:=yhw (x2::r) (y2::s) _ h3
  refine⟨a&&b,p/\q,?_,by simp [h2,h5],h6⟩
  rw [eqL,h1,h4]
 | [],_::_,_,h=>(by simp only [ym6] at h)
 | _::_,[],_,h=>(by simp only [ym6] at h)
 | [_],_::_::_,_,h=>(by simp only [ym6] at h)
 | _::_::_,[_],_,h=>(by simp only [ym6] at h)
def yqd (ks:Option (List KK)) (x y:V) (K:Bool->Prop):Prop:=
 match ks with
 | none=>
  (match x,y with
  | .d (.bool a),.d (.bool b)=>K (a==b)
  | _,_=>False)
 | some ks=>
  (match x,y with
  | .d (.agg a),.d (.agg b)=>
   (match zbz ks a&&zbz ks b with
   | true=>ym6 a b fun p=>Cmp p (K true) (K false)
   | false=>False)
  | _,_=>False)
theorem ym8 (ks:Option (List KK)) (x y:V) (K:Bool->Prop) (h:yqd ks x y K):∃b,eqV ks x y=some b/\K b:=by
 unfold yqd at h
 split at h
 ·split at h
  ·exact⟨_,rfl,h⟩
  ·exact h.elim
 ·split at h
  ·split at h
   ·rename_i hk
    obtain⟨b,p,h1,h2,h3⟩:=yhw _ _ _ h
    refine⟨b,by simp only [eqV];rw [if_pos hk];exact h1,?_⟩
    cases b with
    | true=>exact h3.yes (h2.1 rfl)
    | false=>exact h3.no fun hp=>Bool.noConfusion (h2.2 hp)
   ·exact h.elim
  ·exact h.elim
def ym5 (p:Prop) (K:D->Prop):Prop:=Cmp p (K (.bool true)) (K (.bool false))
theorem yhl {p:Prop} [Decidable p] {K:D->Prop} (h:ym5 p K):K (.bool (decide p)):=by
 by_cases hp:p
 ·have:=h.yes hp;simpa [hp] using this
 ·have:=h.no hp;simpa [hp] using this
def ynk (p:Prop) (K:D->Prop):Prop:=Cmp p (K (.bool false)) (K (.bool true))
theorem yee {p:Prop} [Decidable p] {K:D->Prop} (h:ynk p K):K (.bool (!decide p)):=by
 by_cases hp:p
 ·have:=h.yes hp;simpa [hp] using this
 ·have:=h.no hp;simpa [hp] using this
def ya4 (op:BinOp) (k:IntKind) (a b:Int) (K:D->Prop):Prop:=
 match op with
 | .add=>Wr k (a+b) fun n=>K (.int k n)
 | .sub=>Wr k (a-b) fun n=>K (.int k n)
 | .mul=>Wr k (a*b) fun n=>K (.int k n)
 | .quo=>Quo k a b fun n=>K (.int k n)
 | .rem=>Rem a b fun n=>K (.int k n)
 | .and=>K (.int k (k.wrap ((BitVec.ofInt k.bits a&&&BitVec.ofInt k.bits b).toNat)))
 | .or=>K (.int k (k.wrap ((BitVec.ofInt k.bits a|||BitVec.ofInt k.bits b).toNat)))
 | .xor=>K (.int k (k.wrap ((BitVec.ofInt k.bits a^^^BitVec.ofInt k.bits b).toNat)))
 | .andNot=>K (.int k (k.wrap ((BitVec.ofInt k.bits a&&&~~~ BitVec.ofInt k.bits b).toNat)))
 | .eql=>ym5 (a=b) K
 | .neq=>ynk (a=b) K
 | .lss=>ym5 (a<b) K
 | .leq=>ym5 (a<=b) K
 | .gtr=>ym5 (b<a) K
 | .geq=>ym5 (b<=a) K
 | _=>False
theorem yfh (op:BinOp) (k:IntKind) (a b:Int) (K:D->Prop) (h:ya4 op k a b K):∃d,z18 op k a b=some d/\K d:=by
 cases op<;>simp only [ya4] at h<;>simp only [z18]
 all_goals first
  | exact⟨_,rfl,h.go⟩
  | exact⟨_,if_neg h.ne,h.go⟩
  | exact⟨_,rfl,h⟩
  | exact⟨_,rfl,yhl h⟩
  | exact⟨_,rfl,yee h⟩
def ya5 (op:BinOp) (a b:List UInt8) (K:D->Prop):Prop:=
 match op with
 | .add=>zki (a.length+b.length<=yig) (K (.str (a++b)))
 | .eql=>ym5 (a=b) K
 | .neq=>ynk (a=b) K
 | .lss=>K (.bool (zje a b))
 | .leq=>K (.bool (zje a b||a==b))
 | .gtr=>K (.bool (!(zje a b||a==b)))
 | .geq=>K (.bool (!zje a b))
 | _=>False
theorem yfi (op:BinOp) (a b:List UInt8) (K:D->Prop) (h:ya5 op a b K):∃d,z47 op a b=some d/\K d:=by
 have hb:(a==b)=decide (a=b):=by by_cases e:a=b<;>simp [e]
 cases op<;>simp only [ya5] at h<;>simp only [z47]
 all_goals first
  | exact⟨_,if_pos h.need,h.go⟩
  | exact⟨_,rfl,by rw [hb];exact yhl h⟩
  | exact⟨_,rfl,by rw [hb];exact yee h⟩
  | exact⟨_,rfl,h⟩
def yp9 (op:BinOp) (x y:V) (K:D->Prop):Prop:=
 match x,y with
 | .d (.int k a),.d (.int l b)=>
  (match op with
  | .shl=>zki (0<=b) (Wr k (a*2^(min b.toNat k.bits)) fun n=>K (.int k n))
  | .shr=>zki (0<=b) (K (.int k (a.fdiv (2^(min b.toNat k.bits)))))
  | _=>(match decide (k=l) with
   | true=>ya4 op k a b K
   | false=>False))
 | .d (.str a),.d (.str b)=>ya5 op a b K
 | _,_=>False
theorem ym0 (op:BinOp) (x y:V) (K:D->Prop) (h:yp9 op x y K):∃d,yoi op x y=some d/\K d:=by
 unfold yp9 at h
 split at h
 ·simp only [yoi]
  split at h
  ·exact⟨_,if_pos h.need,h.go.go⟩
  ·exact⟨_,if_pos h.need,h.go⟩
  ·rename_i n1 n2
   split at h
   ·rename_i e
    obtain⟨d,h1,h2⟩:=yfh _ _ _ _ _ h
    refine⟨d,?_,h2⟩
    cases op<;>first |exact(if_pos (of_decide_eq_true e)).trans h1|exact absurd rfl n1|exact absurd rfl n2
   ·exact h.elim
 ·exact yfi _ _ _ _ h
 ·exact h.elim
def zxn (mx:Bool) (k:IntKind):Int->List V->(D->Prop)->Prop
 | a,[],K=>K (.int k a)
 | a,.d (.int _ b)::r,K=>
  (match mx with
  | true=>zxn mx k (if b>a then b else a) r K
  | false=>zxn mx k (if b<a then b else a) r K)
 | _,_::_,_=>False
def ybs (mx:Bool) (l:List V) (K:D->Prop):Prop:=
 match l with
 | .d (.int k a)::r=>zxn mx k a r K
 | _=>False
theorem zvl (mx:Bool) (k:IntKind):∀(l:List V) (a:Int) (K:D->Prop),zxn mx k a l K->∃d,zrd.go mx k a l=some d/\K d
 | [],a,K,h=>⟨.int k a,rfl,h⟩
 | v::r,a,K,h=>by
  unfold zxn at h
  split at h
  ·rename_i e;cases e
  ·rename_i _ _ _ a' b r' K' e
   obtain⟨rfl,rfl⟩:=(List.cons.injEq ..).mp e
   simp only [zrd.go]
   cases mx with
   | true=>exact zvl true k r _ _ h
   | false=>exact zvl false k r _ _ h
  ·exact h.elim
theorem yf3 (mx:Bool) (l:List V) (K:D->Prop) (h:ybs mx l K):∃d,zrd mx l=some d/\K d:=by
 unfold ybs at h
 split at h
 ·exact zvl mx _ _ _ K h
 ·exact h.elim
end Go.Evl
namespace Go.Evl
def yng (nx:Nat):List Id->Bool
 | []=>true
 | i::r=>match Nat.blt i.lv nx with
  | true=>yng nx r
  | false=>false
theorem z3l (nx:Nat):∀(l:List Id),yng nx l=zkn nx l
 | []=>rfl
 | i::r=>by
  simp only [yng]
  cases h:Nat.blt i.lv nx with
  | true=>
   have:i.lv<nx:=Nat.le_of_ble_eq_true h
   simp only [z3l nx r]
   simp [zkn,this]
  | false=>
   have:¬i.lv<nx:=fun hh=>by
    have:=Nat.ble_eq_true_of_le (show i.lv+1<=nx from hh)
    simp only [Nat.blt] at h
    rw [this] at h;cases h
   simp [zkn,this]
def ybp:Mem->(List Id->Prop)->Prop
 | [],K=>K []
 | (i,_)::r,K=>ybp r fun l=>K (i::l)
theorem zxj:∀(m:Mem) (K:List Id->Prop),ybp m K=K (ztx m)
 | [],_=>rfl
 | (i,o)::r,K=>by simp only [ybp,zxj r];rfl
def z45 (nx:Nat):Mem->(Mem->Prop)->Prop
 | [],K=>K []
 | (i,o)::r,K=>match Nat.blt i.lv nx with
  | true=>z45 nx r fun r'=>K ((i,o)::r')
  | false=>z45 nx r K
theorem zwa (nx:Nat):∀(m:Mem) (K:Mem->Prop),z45 nx m K=K (zeb nx m)
 | [],_=>rfl
 | (i,o)::r,K=>by
  simp only [z45]
  cases h:Nat.blt i.lv nx with
  | true=>
   have:i.lv<nx:=Nat.le_of_ble_eq_true h
   simp only [zwa nx r]
   simp [zeb,this]
  | false=>
   have:¬i.lv<nx:=fun hh=>by
    have:=Nat.ble_eq_true_of_le (show i.lv+1<=nx from hh)
    simp only [Nat.blt] at h
    rw [this] at h;cases h
   simp only [zwa nx r]
   simp [zeb,this]
def yks (cx:Cx) (slot:Nat) (imm:Bool) (v:V) (m':Mem) (K:V->Mem->Prop):Prop:=z45 cx.nx m' fun old=>
 match yng cx.nx (idsAll old) with
 | true=>(match imm with
  | true=>(match (ids v).all fun i=>Nat.ble cx.nx i.lv with
   | true=>yl6 m' v fun r=>K r old
   | false=>False)
  | false=>ymx (settle cx slot cx.nx old m' v) fun p=>K p.1 p.2)
 | false=>False
def ya8 (E:Oracle) (cx:Cx) (slot:Nat) (shared imm:Bool) (f:V) (args:List V) (m:Mem) (K:V->Mem->Prop):Prop:=
 match shared with
 | false=>(match f with
  | .fn f first caps=>zxg false m (first ++args++caps) fun ds=>yoh ds fun vs=>
   (match imm with
   | true=>zae E f vs fun v=>K v m
   | false=>zgx E f vs cx slot m K)
  | _=>False)
 | true=>ybp m fun ks=>(match yng cx.nx ks with
  | true=>(match f with
   | .fn f first caps=>In E cx.nx f (first ++args++caps) m fun v m'=>yks cx slot imm v m' K
   | .yld o=>Rnd E cx.nx o args m fun v m'=>yks cx slot imm v m' K
   | _=>False)
  | false=>False)
section
variable {E : Oracle}
theorem yda {cx:Cx} {slot:Nat} {imm:Bool} {v:V} {m':Mem} {K:V->Mem->Prop} (h:yks cx slot imm v m' K):
  ∃p,(if zkn cx.nx (idsAll (zeb cx.nx m')) then zpo cx slot cx.nx imm (zeb cx.nx m') m' v else none)=some p/\K p.1 p.2:=by
 simp only [yks,zwa,z3l] at h
 split at h
 ·rename_i hl
  rw [if_pos hl]
  split at h
  ·split at h
   ·rename_i ha
    obtain⟨r,h1,h2⟩:=yfb _ _ _ h
    refine⟨(r,zeb cx.nx m'),?_,h2⟩
    have ha':((ids v).all fun i=>decide (cx.nx<=i.lv))=true:=by
     rw [List.all_eq_true] at ha ⊢
     intro i hi
     simpa using Nat.le_of_ble_eq_true (ha i hi)
    simp only [zpo,if_true,ha',h1]
    rfl
   ·exact h.elim
  ·obtain⟨p,h1,h2⟩:=h.got
   exact⟨p,by simp only [zpo];exact h1,h2⟩
 ·exact h.elim
theorem zw5 {cx:Cx} {slot:Nat} {shared imm:Bool} {f:V} {args:List V} {m:Mem} {K:V->Mem->Prop} (h:ya8 E cx slot shared imm f args m K):
  ∃p,zlb E cx slot shared imm f args m=some p/\K p.1 p.2:=by
 unfold ya8 at h
 split at h
 ·split at h
  ·rename_i f first caps
   obtain⟨ds,h1,h2⟩:=zra _ _ _ _ h
   rw [z6u] at h2
   simp only [zlb,h1]
   split at h2
   ·obtain⟨r,⟨v,m',h3,h4⟩,h5⟩:=h2.got
    refine⟨(r,m),?_,h5⟩
    have hall:((ids v).all fun i=>decide (0<=i.lv))=true:=by simp
    simp only [h3,zpo,hall,h4]
    rfl
   ·obtain⟨v,m',p,h3,h4,h5⟩:=h2.got
    refine⟨p,?_,h5⟩
    simp only [h3,zpo,h4]
    rfl
  ·exact h.elim
 ·simp only [zxj,z3l] at h
  split at h
  ·rename_i hl
   simp only [zlb,if_true,hl]
   split at h
   ·obtain⟨v,m',h1,h2⟩:=h.got
    simp only [zh1,h1]
    exact yda h2
   ·obtain⟨v,m',h1,h2⟩:=h.got
    simp only [zh1,h1]
    exact yda h2
   ·exact h.elim
  ·exact h.elim
structure yc4 (key:D) (es:List (D×V)) (K:Option V->Prop):Prop where
 got:∃r,zg1 key es=some r/\K r
structure yoq (key:D) (x:V) (es:List (D×V)) (K:List (D×V)->Prop):Prop where
 got:∃r,ztm key x es=some r/\K r
structure z10 (s:List UInt8) (pos:Nat) (some_:Int->Nat->Prop) (none_:Prop):Prop where
 yes:pos<s.length->some_ (Utf8.decode ⟨s.toArray⟩ pos).1 (Utf8.decode ⟨s.toArray⟩ pos).2
 no:¬pos<s.length->none_
def ybr (kk:KK) (zero:D) (ok:Bool) (m:Mem) (x key:V) (K:V->Prop):Prop:=
 match key with
 | .d key=>
  (match zh3 kk key with
  | true=>(match x with
   | .mp o=>zld m o fun ob=>
    match ob with
    | some (.map es)=>yc4 key es fun r=>K (ylj zero ok r)
    | _=>False
   | .d .nilm=>K (ylj zero ok none)
   | _=>False)
  | false=>False)
 | _=>False
theorem yf1 {kk:KK} {zero:D} {ok:Bool} {m:Mem} {x key:V} {K:V->Prop} (h:ybr kk zero ok m x key K):∃v,zpf kk zero ok m x key=some v/\K v:=by
 unfold ybr at h
 split at h
 ·split at h
  ·rename_i hk
   simp only [zpf,if_pos hk]
   split at h
   ·rw [zcd] at h
    split at h
    ·rename_i hl
     obtain⟨r,h1,h2⟩:=h.got
     exact⟨_,by simp only [hl,h1];rfl,h2⟩
    ·exact h.elim
   ·exact⟨_,rfl,h⟩
   ·exact h.elim
  ·exact h.elim
 ·exact h.elim
def yql (m:Mem) (x:V) (K:Nat->Bool->Prop):Prop:=
 match x with
 | .d .nilp=>K 0 true
 | .d .nilf=>K 4 true
 | .d .nili=>K 1 true
 | .d (.ifc true)=>K 1 false
 | .d .nilm=>K 3 true
 | .d (.fn _)=>K 4 false
 | .d (.list n _)=>zki (n≠0) (K 2 false)
 | .fn .. =>K 4 false
 | .lptr .. =>K 0 false
 | .ptr o _ top=>zld m o fun ob=>
  match ob with
  | some (.cells ..)=>K 0 false
  | some (.row _ _ _ n _)=>zki (n=top) (K 0 false)
  | _=>False
 | .ref o off len top=>zld m o fun ob=>
  match ob with
  | some (.row _ _ _ n _)=>zki (n=top/\off+len<=n/\len≠0) (K 2 false)
  | _=>False
 | _=>False
theorem ynl {m:Mem} {x:V} {K:Nat->Bool->Prop} (h:yql m x K):∃k b,yim m x=some (k,b)/\K k b:=by
 unfold yql at h
 split at h
 ·exact⟨_,_,rfl,h⟩
 ·exact⟨_,_,rfl,h⟩
 ·exact⟨_,_,rfl,h⟩
 ·exact⟨_,_,rfl,h⟩
 ·exact⟨_,_,rfl,h⟩
 ·exact⟨_,_,rfl,h⟩
 ·rename_i n cs
  cases n with
  | zero=>exact absurd rfl h.need
  | succ n=>exact⟨_,_,rfl,h.go⟩
 ·exact⟨_,_,rfl,h⟩
 ·exact⟨_,_,rfl,h⟩
 ·rw [zcd] at h
  split at h
  ·rename_i hl;exact⟨_,_,by simp only [yim,z8n,hl];rfl,h⟩
  ·rename_i hl;exact⟨_,_,by simp [yim,z8n,hl,h.need],h.go⟩
  ·exact h.elim
 ·rw [zcd] at h
  split at h
  ·rename_i hl;exact⟨_,_,by simp only [yim,hl];exact if_pos h.need,h.go⟩
  ·exact h.elim
 ·exact h.elim
def z7k (kk:KK) (m:Mem) (x key v:V) (K:V->Mem->Prop):Prop:=
 match x,key with
 | .mp o,.d key=>zld m o fun ob=>
  (match ob with
  | some (.map es)=>(match zh3 kk key&&(cellsOf v).isSome with
   | true=>yoq key v es fun es'=>zx5 m o (.map es') fun m'=>K .skip m'
   | false=>False)
  | _=>False)
 | _,_=>False
theorem z5x {kk:KK} {m:Mem} {x key v:V} {K:V->Mem->Prop} (h:z7k kk m x key v K):∃m',zih kk m x key v=some m'/\K .skip m':=by
 unfold z7k at h
 split at h
 ·rw [zcd] at h
  split at h
  ·rename_i hl
   split at h
   ·rename_i hb
    obtain⟨r,h1,h2⟩:=h.got
    rw [zc2] at h2
    exact⟨_,by simp only [zih,hl,if_pos hb,h1];rfl,h2⟩
   ·exact h.elim
  ·exact h.elim
 ·exact h.elim
structure yqz (E:Oracle) (f:V) (args:List V) (m:Mem) (K:V->Prop):Prop where
 got:∃v,zzt E f args m=some v/\K v
structure yq0 (E:Oracle) (imm:Bool) (f:V) (args:List V) (m:Mem) (K:V->Mem->Prop):Prop where
 got:∃v m',z49 E imm f args m=some (v,m')/\K v m'
def zjo (E:Oracle) (cx:Cx) (slot:Nat) (e:Env) (m:Mem) (op:COp) (K:V->Mem->Prop):Prop:=
 match op with
 | .mv x=>opK e x fun v=>K v m
 | .ownNil r=>yf6 cx slot m fun i=>zx5 m i (.row r.wr r.t r.sz 0 []) fun m'=>K (.ref i 0 0 0) m'
 | .pick c a b=>opK e c fun c=>
  match c with
  | .d (.bool t)=>Br t (opK e a fun v=>K v m) (opK e b fun v=>K v m)
  | _=>False
 | .alloc t cs=>z7f cx slot cs m fun vs m1=>yf6 cx slot m1 fun i=>zx5 m1 i (.cells t vs) fun m2=>K (.ptr i 0 0) m2
 | .box t x=>opK e x fun v=>z8w v fun cs=>yf6 cx slot m fun i=>zx5 m i (.cells t cs) fun m2=>K (.ptr i 0 0) m2
 | .build zero parts=>z7f cx slot zero m fun vs m1=>yek e parts fun ps=>yna vs ps fun cs=>ypv cs fun v=>K v m1
 | .mkList sz n parts=>yax e parts fun vs=>z9n sz m vs fun ds=>K (.d (.list n ds)) m
 | .mkListD sz n parts=>yax e parts fun vs=>Chk (yh9 vs) (z9n sz [] vs fun ds=>K (.d (.list n ds)) m)
 | .mkRow r n parts=>yax e parts fun vs=>z9n r.sz m vs fun ds=>yf6 cx slot m fun i=>zx5 m i (.row r.wr r.t r.sz n ds) fun m2=>K (.ref i 0 n n) m2
 | .load n a=>opK e a fun a=>ylc n m a fun v=>K v m
 | .store n a x=>opK e a fun a=>opK e x fun x=>ye6 n m a x fun m'=>K .skip m'
 | .nilCheck x=>opK e x fun v=>
  match v with
  | .fn f a b=>K (.fn f a b) m
  | .d (.fn f)=>K (.fn f [] []) m
  | .lptr cs o=>K (.lptr cs o) m
  | .ptr o off top=>zld m o fun ob=>
   match ob with
   | some (.cells ..)=>K (.ptr o off top) m
   | some (.row _ _ _ n _)=>zki (n=top) (K (.ptr o off top) m)
   | _=>False
  | _=>False
 | .bin op x y=>opK e x fun x=>opK e y fun y=>yp9 op x y fun d=>K (.d d) m
 | .eqv ks neg x y=>opK e x fun x=>opK e y fun y=>yqd ks x y fun b=>
  match neg with
  | true=>K (.d (.bool (!b))) m
  | false=>K (.d (.bool b)) m
 | .un op x=>opK e x fun x=>
  match op,x with
  | .not,.d (.bool b)=>K (.d (.bool (!b))) m
  | .neg,.d (.int k n)=>Wr k (0-n) fun n=>K (.d (.int k n)) m
  | _,_=>False
 | .conv k x=>opK e x fun x=>
  match x with
  | .d (.int _ n)=>Wr k n fun n=>K (.d (.int k n)) m
  | _=>False
 | .mkFunc f first caps=>yax e first fun a=>yax e caps fun b=>K (.fn f a b) m
 | .makeRow r zero n=>opK e n fun n=>
  match n with
  | .d (.int _ n)=>zki (0<=n/\zero.length=r.sz/\n.toNat*r.by_<=140737488355328/\n.toNat<=140737488355328)
   (yf6 cx slot m fun i=>zx5 m i (.row r.wr r.t r.sz n.toNat (List.replicate n.toNat zero).flatten) fun m'=>K (.ref i 0 n.toNat n.toNat) m')
  | _=>False
 | .sliceS x lo hi=>opK e x fun x=>opK? e lo fun lo=>opK? e hi fun hi=>
  match x with
  | .d (.str s)=>zyl s.length lo hi fun l h=>K (.d (.str (win s l (h-l)))) m
  | _=>False
 | .slice sz x lo hi mx=>opK e x fun x=>opK? e lo fun lo=>opK? e hi fun hi=>opK? e mx fun mx=>yj1 sz m x lo hi mx fun v=>K v m
 | .fieldAddr off x=>opK e x fun x=>ylf off m x fun v=>K v m
 | .field off n x=>opK e x fun x=>ylk n x off fun v=>K v m
 | .idxAddr sz x i=>opK e x fun x=>opK e i fun i=>z7d sz m x i fun v=>K v m
 | .idxAddrA len sz x i=>opK e x fun x=>opK e i fun i=>
  match i with
  | .d (.int _ i)=>zki (0<=i/\i<len) (ylf (i.toNat*sz) m x fun v=>K v m)
  | _=>False
 | .idxS x i=>opK e x fun x=>opK e i fun i=>
  match x,i with
  | .d (.str s),.d (.int _ i)=>zki (0<=i) (yg8 s i.toNat fun b=>K (.d (.int .u8 b.toNat)) m)
  | _,_=>False
 | .idxA len sz n x i=>opK e x fun x=>opK e i fun i=>
  match i with
  | .d (.int _ i)=>zki (0<=i/\i<len) (ylk n x (i.toNat*sz) fun v=>K v m)
  | _=>False
 | .mkMap=>yf6 cx slot m fun i=>zx5 m i (.map []) fun m'=>K (.mp i) m'
 | .lookup kk zero ok x key=>opK e x fun x=>opK e key fun key=>ybr kk zero ok m x key fun v=>K v m
 | .mapSet kk x key v=>opK e x fun x=>opK e key fun key=>opK e v fun v=>z7k kk m x key v K
 | .mapSetR kk x key v rs=>opK e x fun x=>opK e key fun key=>opK e v fun v=>yfu e rs fun vs=>Chk (yc8 x vs) (z7k kk m x key v K)
 | .callD f args=>opK e f fun f=>yax e args fun vs=>
  match zr9 f with
  | .fn g [] []=>Chk (yh9 vs) (ya8 E cx slot false true (.fn g [] []) vs m K)
  | _=>False
 | .callQ f args=>opK e f fun f=>yax e args fun vs=>yqz E (zr9 f) vs m fun v=>K v m
 | .callU imm f args=>opK e f fun f=>yax e args fun vs=>yq0 E imm (zr9 f) vs m K
 | .callK imm f args=>opK e f fun f=>yax e args fun vs=>ya8 E cx slot true imm (zr9 f) vs m fun v m'=>Chk (leM m m' m) (K v m)
 | .callN f args=>opK e f fun f=>yax e args fun vs=>
  match zr9 f with
  | .fn g [] []=>Chk (yh9 vs) (ya8 E cx slot false false (.fn g [] []) vs m K)
  | _=>False
 | .nilEq kd neg x=>opK e x fun x=>yql m x fun k b=>Chk (Nat.beq k kd) (K (.d (.bool (if neg then !b else b))) m)
 | .loadD n a=>opK e a fun a=>
  match a with
  | .lptr cs off=>z91 n cs off fun v=>K v m
  | _=>False
 | .sliceC _ x hi mx=>opK e x fun x=>opK e hi fun hi=>opK e mx fun mx=>
  match x with
  | .d (.list n cs)=>(match hi with
   | .d (.int _ h)=>(match mx with
    | .d (.int _ k)=>zki (h=n/\k=n) (K (.cl n cs) m)
    | _=>False)
   | _=>False)
  | _=>False
 | .sealMv x=>opK e x fun v=>yn5 m v fun m'=>K v m'
 | .fieldAddrD off x=>opK e x fun x=>
  match x with
  | .lptr cs b=>K (.lptr cs (b+off)) m
  | _=>False
 | .idxAddrD sz x i=>opK e x fun x=>opK e i fun i=>
  match x with
  | .d (.list n cs)=>(match i with
   | .d (.int _ i)=>zki (0<=i/\i<n) (K (.lptr cs (i.toNat*sz)) m)
   | _=>False)
  | _=>False
 | .appendIn r s x=>opK e s fun s=>opK e x fun x=>z5h m x fun k ds=>
  match s with
  | .ref o off len top=>zld m o fun ob=>
   match ob with
   | some (.row true t sz n xs)=>zki (n=top/\off+len+k<=n/\off+len<n/\t=r.t/\sz=r.sz/\ds.length=k*sz)
    (zx5 m o (.row true t sz n (patch xs ((off+len)*sz) ds)) fun m'=>K (.ref o off (len+k) top) m')
   | _=>False
  | _=>False
 | .rangeS x=>opK e x fun x=>
  match x with
  | .d (.str s)=>yf6 cx slot m fun i=>zx5 m i (.iter s 0) fun m'=>K (.it i) m'
  | _=>False
 | .nextS x=>opK e x fun x=>
  match x with
  | .it o=>zld m o fun ob=>
   match ob with
   | some (.iter s pos)=>z10 s pos (fun c w=>zx5 m o (.iter s (pos+w)) fun m'=>K (.tup [.d (.bool true),.d (.int .i64 pos),.d (.int .i32 c)]) m') (K (.tup [.d (.bool false)]) m)
   | _=>False
  | _=>False
 | .extract x i=>opK e x fun x=>
  match x with
  | .tup vs=>zqp vs i fun v=>K v m
  | _=>False
 | .call shared imm f args=>opK e f fun f=>yax e args fun vs=>ya8 E cx slot shared imm (zr9 f) vs m K
 | .storeR n a x rs=>opK e a fun a=>opK e x fun x=>yfu e rs fun vs=>Chk (yc9 a vs) (ye6 n m a x fun m'=>K .skip m')
 | .bad=>False
 | .appendZ r zero s n=>opK e s fun s=>opK e n fun n=>
  match s,n with
  | .d .nil,.d (.int .i64 n)=>zki (0<n/\zero.length=r.sz/\n.toNat*r.by_<=140737488355328/\n.toNat<=140737488355328)
   (yf6 cx slot m fun i=>zx5 m i (.row r.wr r.t r.sz n.toNat (List.replicate n.toNat zero).flatten) fun m'=>K (.ref i 0 n.toNat n.toNat) m')
  | _,_=>False
 | .callB imm f args b=>∃p,zy5 (fun m=>zlb E cx slot true imm (zr9 (f.ev e)) (evs e args) m) m (get e b)=some p/\K p.1 p.2
 | .callR imm f args rs=>opK e f fun f=>yax e args fun vs=>yfu e rs fun ws=>ya8 E cx slot true imm (zr9 f) vs m fun v m'=>Chk (ybo m m' ws) (K v m')
 | .len k x=>opK e x fun x=>yqk m k x fun n=>K (.d (.int .i64 (n:Int))) m
 | .append r s x=>opK e s fun s=>opK e x fun x=>z5h m x fun k ds=>zvy cx slot r m k ds s K
 | .appendF r s x=>opK e s fun s=>opK e x fun x=>z5h m x fun k ds=>zvy cx slot r m k ds s fun v m'=>zg2 false m' v fun d=>K (.d d) m'
 | .strB x=>opK e x fun x=>
  match x with
  | .d (.list 1 [.int .u8 n])=>K (.d (.str [UInt8.ofNat n.toNat])) m
  | _=>False
 | .appendS r s x=>opK e s fun s=>opK e x fun x=>
  match x,s with
  | .d (.str b),.ref o off len top=>zvy cx slot r m b.length (ydf b) (.ref o off len top) K
  | _,_=>False
 | .copy sz a b=>opK e a fun d=>opK e b fun s=>z5h m s fun k ds=>
  match d with
  | .ref o off len top=>zld m o fun ob=>
   match ob with
   | some (.row true t sz' n xs)=>zki (n=top/\off+len<=n/\sz'=sz/\ds.length=k*sz)
    (zx5 m o (.row true t sz' n (patch xs (off*sz) (ds.take (min k len*sz)))) fun m'=>K (.d (.int .i64 (min k len:Nat))) m')
   | _=>False
  | _=>False
 | .minmax mx args=>yax e args fun vs=>ybs mx vs fun d=>K (.d d) m
 | .clear zero x=>opK e x fun x=>ymx (ydg zero m x) fun m'=>K .skip m'
theorem yc3 {cx:Cx} {slot:Nat} {e:Env} {m:Mem} {op:COp} {K:V->Mem->Prop} (h:zjo E cx slot e m op K):∃p,zbq E cx slot e m op=some p/\K p.1 p.2:=by
 cases op with
 | mv x=>simp only [zjo,zbe] at h;exact⟨(_,_),rfl,h⟩
 | ownNil r=>simp only [zjo,zlz,zc2] at h;exact⟨(_,_),rfl,h⟩
 | pick c a b=>
  simp only [zjo,zbe] at h
  simp only [zbq]
  split at h
  ·rename_i t ht
   rw [ht]
   refine⟨(if t then a.ev e else b.ev e,m),rfl,?_⟩
   cases t with
   | true=>exact h.yes rfl
   | false=>exact h.no rfl
  ·exact h.elim
 | alloc t cs=>simp only [zjo,z1g,zlz,zc2] at h;exact⟨(_,_),rfl,h⟩
 | box t x=>
  simp only [zjo,zbe] at h
  obtain⟨cs,h1,h2⟩:=z2u _ _ h
  simp only [zlz,zc2] at h2
  exact⟨(_,_),by simp only [zbq,h1],h2⟩
 | build zero parts=>
  simp only [zjo,z1g,z90] at h
  obtain⟨cs,h1,h2⟩:=ydo _ _ _ h
  rw [yhc] at h2
  exact⟨(_,_),by simp only [zbq,h1];rfl,h2⟩
 | mkList sz n parts=>
  simp only [zjo,zky] at h
  obtain⟨cs,h1,h2⟩:=zxm _ _ _ _ h
  exact⟨(_,_),by simp only [zbq,h1];rfl,h2⟩
 | mkListD sz n parts=>
  simp only [zjo,zky] at h
  obtain⟨hc,h⟩:=h
  obtain⟨cs,h1,h2⟩:=zxm _ _ _ _ h
  exact⟨(_,_),by simp only [zbq,hc,if_true,h1];rfl,h2⟩
 | mkRow r n parts=>
  simp only [zjo,zky] at h
  obtain⟨cs,h1,h2⟩:=zxm _ _ _ _ h
  simp only [zlz,zc2] at h2
  exact⟨(_,_),by simp only [zbq,h1];rfl,h2⟩
 | load n a=>
  simp only [zjo,zbe] at h
  obtain⟨v,h1,h2⟩:=yd7 _ _ _ _ h
  exact⟨(_,_),by simp only [zbq,h1];rfl,h2⟩
 | store n a x=>
  simp only [zjo,zbe] at h
  obtain⟨v,h1,h2⟩:=yap _ _ _ _ _ h
  exact⟨(_,_),by simp only [zbq,h1];rfl,h2⟩
 | nilCheck x=>
  simp only [zjo,zbe] at h
  simp only [zbq]
  split at h
  ·rename_i hx;rw [hx];exact⟨(_,_),rfl,h⟩
  ·rename_i hx;rw [hx];exact⟨(_,_),rfl,h⟩
  ·rename_i hx;rw [hx];exact⟨(_,_),rfl,h⟩
  ·rename_i hx;rw [hx]
   rw [zcd] at h
   split at h
   ·rename_i hl;exact⟨(_,_),by simp only [z8n,hl];rfl,h⟩
   ·rename_i hl;exact⟨(_,_),by simp [z8n,hl,h.need],h.go⟩
   ·exact h.elim
  ·exact h.elim
 | bin op x y=>
  simp only [zjo,zbe] at h
  obtain⟨v,h1,h2⟩:=ym0 _ _ _ _ h
  exact⟨(_,_),by simp only [zbq,h1];rfl,h2⟩
 | eqv ks neg x y=>
  simp only [zjo,zbe] at h
  obtain⟨v,h1,h2⟩:=ym8 _ _ _ _ h
  cases neg<;>exact⟨(_,_),by simp only [zbq,h1];rfl,h2⟩
 | un op x=>
  simp only [zjo,zbe] at h
  simp only [zbq]
  split at h
  ·rename_i hx;rw [hx];exact⟨(_,_),rfl,h⟩
  ·rename_i hx;rw [hx];exact⟨(_,_),rfl,h.go⟩
  ·exact h.elim
 | conv k x=>
  simp only [zjo,zbe] at h
  simp only [zbq]
  split at h
  ·rename_i hx;rw [hx];exact⟨(_,_),rfl,h.go⟩
  ·exact h.elim
 | mkFunc f first caps=>simp only [zjo,zky] at h;exact⟨(_,_),rfl,h⟩
 | makeRow r zero n=>
  simp only [zjo,zbe] at h
  simp only [zbq]
  split at h
  ·rename_i hx;rw [hx]
   obtain⟨⟨h1,h2,h3,h4⟩,h5⟩:=h
   simp only [zlz,zc2] at h5
   exact⟨(_,_),if_pos ⟨h1,h2,by simp [zxv,h3,h4]⟩,h5⟩
  ·exact h.elim
 | sliceS x lo hi=>
  simp only [zjo,zbe,opK?_eq] at h
  simp only [zbq]
  split at h
  ·rename_i hx;rw [hx]
   obtain⟨p,h1,h2⟩:=zts _ _ _ _ h
   obtain⟨l,hh⟩:=p
   simp only [h1]
   exact⟨(_,_),rfl,h2⟩
  ·exact h.elim
 | slice sz x lo hi mx=>
  simp only [zjo,zbe,opK?_eq] at h
  obtain⟨v,h1,h2⟩:=yj2 _ _ _ _ _ _ _ h
  exact⟨(_,_),by simp only [zbq,h1];rfl,h2⟩
 | fieldAddr off x=>
  simp only [zjo,zbe] at h
  obtain⟨v,h1,h2⟩:=yec _ _ _ _ h
  exact⟨(_,_),by simp only [zbq,h1];rfl,h2⟩
 | field off n x=>
  simp only [zjo,zbe] at h
  obtain⟨v,h1,h2⟩:=yej _ _ _ _ h
  exact⟨(_,_),by simp only [zbq,h1];rfl,h2⟩
 | idxAddr sz x i=>
  simp only [zjo,zbe] at h
  obtain⟨v,h1,h2⟩:=ybm _ _ _ _ _ h
  exact⟨(_,_),by simp only [zbq,h1];rfl,h2⟩
 | idxAddrA len sz x i=>
  simp only [zjo,zbe] at h
  simp only [zbq]
  split at h
  ·rename_i hx;rw [hx]
   obtain⟨h0,h⟩:=h
   obtain⟨v,h1,h2⟩:=yec _ _ _ _ h
   simp only [asI,if_pos h0,h1]
   exact⟨(_,_),rfl,h2⟩
  ·exact h.elim
 | idxS x i=>
  simp only [zjo,zbe] at h
  simp only [zbq]
  split at h
  ·rename_i hx hi;rw [hx,hi]
   obtain⟨h0,h⟩:=h
   obtain⟨b,h1,h2⟩:=h.got
   simp only [asI,if_pos h0,h1]
   exact⟨(_,_),rfl,h2⟩
  ·exact h.elim
 | idxA len sz n x i=>
  simp only [zjo,zbe] at h
  simp only [zbq]
  split at h
  ·rename_i hx;rw [hx]
   obtain⟨h0,h⟩:=h
   obtain⟨v,h1,h2⟩:=yej _ _ _ _ h
   simp only [asI,if_pos h0,h1]
   exact⟨(_,_),rfl,h2⟩
  ·exact h.elim
 | mkMap=>simp only [zjo,zlz,zc2] at h;exact⟨(_,_),rfl,h⟩
 | lookup kk zero ok x key=>
  simp only [zjo,zbe] at h
  obtain⟨v,h1,h2⟩:=yf1 h
  exact⟨(_,_),by simp only [zbq,h1];rfl,h2⟩
 | mapSet kk x key v=>
  simp only [zjo,zbe] at h
  obtain⟨m',h1,h2⟩:=z5x h
  exact⟨(_,_),by simp only [zbq,h1];rfl,h2⟩
 | mapSetR kk x key v rs=>
  simp only [zjo,zbe,z1f] at h
  obtain⟨hc,h⟩:=h
  obtain⟨m',h1,h2⟩:=z5x h
  exact⟨(_,_),by simp only [zbq,if_pos hc,h1];rfl,h2⟩
 | callK imm f args=>
  simp only [zjo,zbe,zky] at h
  obtain⟨⟨v,m'⟩,h1,hc,h2⟩:=zw5 h
  exact⟨(v,m),by simp only [zbq,h1,if_pos hc],h2⟩
 | callQ f args=>
  simp only [zjo,zbe,zky] at h
  obtain⟨v,h1,h2⟩:=h.got
  exact⟨(v,m),by simp only [zbq,h1];rfl,h2⟩
 | callU b f args=>
  simp only [zjo,zbe,zky] at h
  obtain⟨v,m',h1,h2⟩:=h.got
  exact⟨(v,m'),by simp only [zbq,h1],h2⟩
 | callN f args=>
  simp only [zjo,zbe,zky] at h
  simp only [zbq]
  split at h
  ·rename_i hf;rw [hf]
   obtain⟨hc,h⟩:=h
   obtain⟨p,h1,h2⟩:=zw5 h
   exact⟨p,by simp only [hc,if_true];exact h1,h2⟩
  ·exact h.elim
 | callD f args=>
  simp only [zjo,zbe,zky] at h
  simp only [zbq]
  split at h
  ·rename_i hf;rw [hf]
   obtain⟨hc,h⟩:=h
   obtain⟨p,h1,h2⟩:=zw5 h
   exact⟨p,by simp only [hc,if_true];exact h1,h2⟩
  ·exact h.elim
 | nilEq kd neg x=>
  simp only [zjo,zbe] at h
  obtain⟨k,b,h1,hc,h2⟩:=ynl h
  exact⟨(_,_),by simp only [zbq,h1];exact if_pos (Nat.eq_of_beq_eq_true hc),h2⟩
 | loadD n a=>
  simp only [zjo,zbe] at h
  simp only [zbq]
  split at h
  ·rename_i ha;rw [ha]
   obtain⟨v,h1,h2⟩:=zxt _ _ _ _ h
   exact⟨(_,_),by simp only [h1];rfl,h2⟩
  ·exact h.elim
 | sliceC sz x hi mx=>
  simp only [zjo,zbe] at h
  simp only [zbq]
  split at h
  ·rename_i hx;rw [hx]
   split at h
   ·rename_i hh;rw [hh]
    split at h
    ·rename_i hm;rw [hm]
     exact⟨(_,_),if_pos h.need,h.go⟩
    ·exact h.elim
   ·exact h.elim
  ·exact h.elim
 | sealMv x=>
  simp only [zjo,zbe] at h
  exact⟨(_,_),rfl,ylz _ _ _ h⟩
 | fieldAddrD off x=>
  simp only [zjo,zbe] at h
  simp only [zbq]
  split at h
  ·rename_i hx;rw [hx]
   exact⟨(_,_),rfl,h⟩
  ·exact h.elim
 | idxAddrD sz x i=>
  simp only [zjo,zbe] at h
  simp only [zbq]
  split at h
  ·rename_i hx;rw [hx]
   split at h
   ·rename_i hi;rw [hi]
    exact⟨(_,_),if_pos h.need,h.go⟩
   ·exact h.elim
  ·exact h.elim
 | appendIn r s x=>
  simp only [zjo,zbe] at h
  obtain⟨⟨k,ds⟩,h1,h2⟩:=zw9 _ _ _ h
  simp only [zbq,zvx,h1]
  split at h2
  ·rename_i hs;rw [hs]
   rw [zcd] at h2
   split at h2
   ·rename_i hl
    obtain⟨hc,h3⟩:=h2
    rw [zc2] at h3
    exact⟨(_,_),by simp only [hl];exact if_pos hc,h3⟩
   ·exact h2.elim
  ·exact h2.elim
 | rangeS x=>
  simp only [zjo,zbe] at h
  simp only [zbq]
  split at h
  ·rename_i hx;rw [hx]
   simp only [zlz,zc2] at h
   exact⟨(_,_),rfl,h⟩
  ·exact h.elim
 | nextS x=>
  simp only [zjo,zbe] at h
  simp only [zbq]
  split at h
  ·rename_i hx;rw [hx]
   rw [zcd] at h
   split at h
   ·rename_i s pos hl
    simp only [zc2] at h
    simp only [ylg,hl]
    by_cases hp:pos<s.length
    ·exact⟨(_,_),if_pos hp,h.yes hp⟩
    ·exact⟨(_,_),if_neg hp,h.no hp⟩
   ·exact h.elim
  ·exact h.elim
 | extract x i=>
  simp only [zjo,zbe] at h
  simp only [zbq]
  split at h
  ·rename_i hx;rw [hx]
   obtain⟨v,h1,h2⟩:=h.got
   exact⟨(_,_),by simp only [h1];rfl,h2⟩
  ·exact h.elim
 | call shared imm f args=>
  simp only [zjo,zbe,zky] at h
  exact zw5 h
 | storeR n a x rs=>
  simp only [zjo,zbe,z1f] at h
  obtain⟨hc,h⟩:=h
  obtain⟨v,h1,h2⟩:=yap _ _ _ _ _ h
  exact⟨(_,_),by simp only [zbq,if_pos hc,h1];rfl,h2⟩
 | callB imm f args b=>exact h
 | bad=>exact h.elim
 | appendZ r zero s n=>
  simp only [zjo,zbe] at h
  simp only [zbq]
  split at h
  ·rename_i hs hn;rw [hs,hn]
   obtain⟨⟨h1,h2,h3,h4⟩,h5⟩:=h
   rw [zlz,zc2] at h5
   exact⟨(_,_),if_pos ⟨h1,h2,by simp [zxv,h3,h4]⟩,h5⟩
  ·exact h.elim
 | callR imm f args rs=>
  simp only [zjo,zbe,zky,z1f] at h
  obtain⟨⟨v,m'⟩,h1,hc,h2⟩:=zw5 h
  exact⟨(v,m'),by simp only [zbq,h1,if_pos hc],h2⟩
 | len k x=>
  simp only [zjo,zbe] at h
  obtain⟨v,h1,h2⟩:=ynf _ _ _ _ h
  exact⟨(_,_),by simp only [zbq,h1];rfl,h2⟩
 | append r s x=>
  simp only [zjo,zbe] at h
  obtain⟨⟨k,ds⟩,h1,h2⟩:=zw9 _ _ _ h
  simp only [zbq,zuw,h1]
  exact zuv _ _ _ _ _ _ _ _ h2
 | appendF r s x=>
  simp only [zjo,zbe] at h
  obtain⟨⟨k,ds⟩,h1,h2⟩:=zw9 _ _ _ h
  obtain⟨⟨v,m'⟩,h3,h4⟩:=zuv _ _ _ _ _ _ _ _ h2
  obtain⟨d,h5,h6⟩:=zqd _ _ _ _ h4
  exact⟨(_,_),by simp only [zbq,zuw,h1,h3,h5];rfl,h6⟩
 | strB x=>
  simp only [zjo,zbe] at h
  simp only [zbq]
  split at h
  ·rename_i hx;rw [hx];exact⟨(_,_),rfl,h⟩
  ·exact h.elim
 | appendS r s x=>
  simp only [zjo,zbe] at h
  simp only [zbq]
  split at h
  ·rename_i hx hs;rw [hx,hs]
   simp only [zvz]
   exact zuv _ _ _ _ _ _ _ _ h
  ·exact h.elim
 | copy sz a b=>
  simp only [zjo,zbe] at h
  obtain⟨⟨k,ds⟩,h1,h2⟩:=zw9 _ _ _ h
  simp only [zbq,ykz,h1]
  split at h2
  ·rename_i hx;rw [hx]
   rw [zcd] at h2
   split at h2
   ·rename_i hl;simp only [hl]
    rw [zc2] at h2
    exact⟨(_,_),if_pos h2.need,h2.go⟩
   ·exact h2.elim
  ·exact h2.elim
 | minmax mx args=>
  simp only [zjo,zky] at h
  obtain⟨v,h1,h2⟩:=yf3 _ _ _ h
  exact⟨(_,_),by simp only [zbq,h1];rfl,h2⟩
 | clear zero x=>
  simp only [zjo,zbe] at h
  obtain⟨v,h1,h2⟩:=h.got
  exact⟨(_,_),by simp only [zbq,h1];rfl,h2⟩
def yod (E:Oracle) (cx:Cx) (e:Env) (m:Mem) (o:CO) (K:V->Mem->Prop):Prop:=
 match o with
 | ⟨dst,none,op⟩=>zjo E cx (dst.getD 0) e m op K
 | ⟨dst,some (t,want),op⟩=>ykm e t fun g=>
  match g with
  | .d (.bool b)=>(match want with
   | true=>Br b (zjo E cx (dst.getD 0) e m op K) (K .skip m)
   | false=>Br b (K .skip m) (zjo E cx (dst.getD 0) e m op K))
  | .skip=>K .skip m
  | _=>False
theorem yl8 {cx:Cx} {e:Env} {m:Mem} {o:CO} {K:V->Mem->Prop} (h:yod E cx e m o K):∃p,zdg E cx e m o=some p/\K p.1 p.2:=by
 obtain⟨dst,guard,op⟩:=o
 cases guard with
 | none=>exact yc3 h
 | some g=>
  obtain⟨t,want⟩:=g
  simp only [yod,zs8] at h
  simp only [zdg]
  split at h
  ·rename_i b hb
   rw [hb]
   cases want<;>cases b
   ·exact yc3 (h.no rfl)
   ·exact⟨(_,_),rfl,h.yes rfl⟩
   ·exact⟨(_,_),rfl,h.no rfl⟩
   ·exact yc3 (h.yes rfl)
  ·rename_i hb;rw [hb];exact⟨(_,_),rfl,h⟩
  ·exact h.elim
def ykf (E:Oracle) (cx:Cx):List CO->Env->Mem->(Env->Mem->Prop)->Prop
 | [],e,m,K=>K e m
 | o::r,e,m,K=>yod E cx e m o fun v m'=>put?K e o.dst v fun e'=>ykf E cx r e' m' K
theorem z1x {cx:Cx}:∀(os:List CO) (e:Env) (m:Mem) (K:Env->Mem->Prop),ykf E cx os e m K->∃p,zim E cx os e m=some p/\K p.1 p.2
 | [],e,m,K,h=>⟨(e,m),rfl,h⟩
 | o::r,e,m,K,h=>by
  obtain⟨⟨v,m'⟩,h1,h2⟩:=yl8 h
  rw [put?K_eq] at h2
  obtain⟨p,h3,h4⟩:=z1x r _ _ K h2
  exact⟨p,by simp only [zim,h1];exact h3,h4⟩
def yq3 (K1:Env->Mem->Prop) (K:Ex->Env->Mem->Prop) (x:Ex) (e:Env) (m:Mem):Prop:=
 match x with
 | .normal=>K1 e m
 | .exit i=>K (.exit i) e m
 | .ret=>K .ret e m
def ymf (id:Nat) (K:Ex->Env->Mem->Prop) (x:Ex) (e:Env) (m:Mem):Prop:=
 match x with
 | .normal=>K .normal e m
 | .exit j=>(match Nat.beq j id with
  | true=>K .normal e m
  | false=>K (.exit j) e m)
 | .ret=>K .ret e m
def ymq (cx:Cx) (i:Id) (e:Env) (K:Ex->Env->Mem->Prop) (m':Mem):Prop:=zld m' i fun o=>
 match o with
 | some (.loop _ _ _ _ _ false _ j)=>z45 cx.nx m' fun mb=>
  (match yng cx.nx (idsAll mb) with
  | true=>zx5 mb i .gone fun m2=>
   (match j with
   | none=>K .normal e m2
   | some (.exit id)=>K (.exit id) e m2
   | some .ret=>K .ret e m2)
  | false=>False)
 | _=>False
def wpC (E:Oracle) (cx:Cx):C->Env->Mem->(Ex->Env->Mem->Prop)->Prop
 | .skip,e,m,K=>K .normal e m
 | .label,e,m,K=>K .normal e m
 | .reg _ ops kill,e,m,K=>ykf E cx ops e m fun e' m'=>zt7 kill e' fun e''=>K .normal e'' m'
 | .regC ops kill chk,e,m,K=>ykf E cx ops e m fun e' m'=>Chk (yk0 e' chk) (zt7 kill e' fun e''=>K .normal e'' m')
 | .seq a b,e,m,K=>wpC E cx a e m (yq3 (fun e' m'=>wpC E cx b e' m' K) K)
 | .cond c a b,e,m,K=>opK e c fun v=>
  match v with
  | .d (.bool t)=>Br t (wpC E cx a e m K) (wpC E cx b e m K)
  | _=>False
 | .block id c,e,m,K=>wpC E cx c e m (ymf id K)
 | .loop live c,e,m,K=>yiz e live fun e'=>ybp m fun ks=>gcK ks e' m fun m'=>zad E cx live ks c e' m' K
 | .exit id,e,m,K=>K (.exit id) e m
 | .ret,e,m,K=>K .ret e m
 | .bad,_,_,_=>False
 | .scope c,e,m,K=>wpC E cx c e m K
 | .fz t c,e,m,K=>ykm e t fun v=>zg2 false m v fun d=>yom e t (.d d) fun e'=>wpC E cx c e' m K
 | .rangeM pre it x out nxt pair live ops kill code,e,m,K=>ykf E cx pre e m fun e1 m1=>
  ∃x' e' m',z3z (fun e m=>(zim E cx ops e m).bind fun q=>evC E cx code (zdl kill q.1) q.2) cx it x out nxt pair live e1 m1=some (x',e',m')/\K x' e' m'
 | .rangeFn slot f ps a b,e,m,K=>yf6 cx slot m fun i=>zx5 m i (.loop e ps a b cx.lv false false none) fun m1=>ybp m1 fun ks=>
  match yng cx.nx ks with
  | true=>opK e f fun fv=>
   (match fv with
   | .fn g first caps=>In E cx.nx g (first ++[.yld i]++caps) m1 fun _ m'=>ymq cx i e K m'
   | _=>False)
  | false=>False
theorem ztq {cx:Cx}:∀(c:C) (e:Env) (m:Mem) (K:Ex->Env->Mem->Prop),wpC E cx c e m K->∃x e' m',evC E cx c e m=some (x,e',m')/\K x e' m'
 | .rangeM pre it x out nxt pair live ops kill code,e,m,K,h=>by
  obtain⟨p,h1,x',e',m',h2,h3⟩:=z1x pre e m _ h
  exact⟨x',e',m',by simp only [evC,h1,Option.bind_some,h2],h3⟩
 | .skip,e,m,K,h=>⟨_,_,_,rfl,h⟩
 | .label,e,m,K,h=>⟨_,_,_,rfl,h⟩
 | .exit _,e,m,K,h=>⟨_,_,_,rfl,h⟩
 | .ret,e,m,K,h=>⟨_,_,_,rfl,h⟩
 | .bad,_,_,_,h=>h.elim
 | .fz t c,e,m,K,h=>by
  simp only [wpC,zs8] at h
  obtain⟨d,hd,h⟩:=zqd _ _ _ _ h
  rw [z7w] at h
  obtain⟨x,e',m',h1,h2⟩:=ztq c _ m K h
  exact⟨x,e',m',by simp only [evC,hd];exact h1,h2⟩
 | .scope c,e,m,K,h=>by
  obtain⟨x,e',m',h1,h2⟩:=ztq c e m K h
  exact⟨x,e',m',by simp only [evC];exact h1,h2⟩
 | .reg _ ops kill,e,m,K,h=>by
  obtain⟨p,h1,h2⟩:=z1x ops e m _ h
  rw [zrl] at h2
  exact⟨_,_,_,by simp only [evC,h1];rfl,h2⟩
 | .regC ops kill chk,e,m,K,h=>by
  obtain⟨p,h1,hc,h2⟩:=z1x ops e m _ h
  rw [zrl] at h2
  exact⟨_,_,_,by simp only [evC,h1,Option.bind_some];exact if_pos hc,h2⟩
 | .seq a b,e,m,K,h=>by
  obtain⟨x,e',m',h1,h2⟩:=ztq a e m _ h
  cases x with
  | normal=>
   obtain⟨x2,e2,m2,h3,h4⟩:=ztq b e' m' K h2
   exact⟨x2,e2,m2,by simp only [evC,h1];exact h3,h4⟩
  | _=>exact⟨_,_,_,by simp only [evC,h1],h2⟩
 | .cond c a b,e,m,K,h=>by
  simp only [wpC,zbe] at h
  simp only [evC]
  split at h
  ·rename_i t ht
   rw [ht]
   cases t with
   | true=>
    obtain⟨x2,e2,m2,h3,h4⟩:=ztq a e m K (h.yes rfl)
    exact⟨x2,e2,m2,by simpa using h3,h4⟩
   | false=>
    obtain⟨x2,e2,m2,h3,h4⟩:=ztq b e m K (h.no rfl)
    exact⟨x2,e2,m2,by simpa using h3,h4⟩
  ·exact h.elim
 | .block id c,e,m,K,h=>by
  obtain⟨x,e',m',h1,h2⟩:=ztq c e m _ h
  cases x with
  | exit j=>
   simp only [ymf] at h2
   cases hb:Nat.beq j id with
   | true=>
    rw [hb] at h2
    exact⟨.normal,e',m',by simp only [evC,h1];exact if_pos (Nat.eq_of_beq_eq_true hb),h2⟩
   | false=>
    rw [hb] at h2
    have:j≠id:=fun hh=>by rw [hh,Nat.beq_refl] at hb;cases hb
    exact⟨.exit j,e',m',by simp only [evC,h1];exact if_neg this,h2⟩
  | _=>exact⟨_,_,_,by simp only [evC,h1],h2⟩
 | .loop live c,e,m,K,h=>by
  simp only [wpC,z7s,zxj,yh5] at h
  obtain⟨x,e',m',h1,h2⟩:=h.got
  exact⟨x,e',m',by simp only [evC,h1],h2⟩
 | .rangeFn slot f ps a b,e,m,K,h=>by
  simp only [wpC,zlz,zc2,zxj,z3l,zbe] at h
  simp only [evC]
  split at h
  ·rename_i hl
   rw [if_pos hl]
   split at h
   ·rename_i hf
    rw [hf]
    obtain⟨v,m',h1,h2⟩:=h.got
    simp only [h1]
    simp only [ymq,zcd,zwa,z3l,zc2] at h2
    split at h2
    ·rename_i hlk
     simp only [hlk]
     split at h2
     ·rename_i hl2
      simp only [if_pos hl2]
      split at h2<;>exact⟨_,_,_,rfl,h2⟩
     ·exact h2.elim
    ·exact h2.elim
   ·exact h.elim
  ·exact h.elim
def yph (m:Mem) (e:Env) (r:RV) (K:V->Prop):Prop:=
 match r with
 | .tmp t=>ykm e t K
 | .cell t n=>ykm e t fun a=>ylc n m a K
theorem yjl {m:Mem} {e:Env} {r:RV} {K:V->Prop} (h:yph m e r K):∃v,ypg m e r=some v/\K v:=by
 cases r with
 | tmp t=>simp only [yph,zs8] at h;exact⟨_,rfl,h⟩
 | cell t n=>simp only [yph,zs8] at h;exact yd7 _ _ _ _ h
def ynw (m:Mem) (e:Env):List RV->(List V->Prop)->Prop
 | [],K=>K []
 | r::q,K=>yph m e r fun v=>ynw m e q fun vs=>K (v::vs)
theorem yep {m:Mem} {e:Env}:∀(l:List RV) (K:List V->Prop),ynw m e l K->∃vs,z4w m e l=some vs/\K vs
 | [],K,h=>⟨[],rfl,h⟩
 | r::q,K,h=>by
  obtain⟨v,h1,h2⟩:=yjl h
  obtain⟨vs,h3,h4⟩:=yep q _ h2
  exact⟨v::vs,by simp only [z4w,h1,h3],h4⟩
def z1r (m:Mem) (e:Env) (rs:List RV) (K:V->Prop):Prop:=
 match rs with
 | []=>K (.tup [])
 | [r]=>yph m e r K
 | r::r2::rs=>ynw m e (r::r2::rs) fun vs=>K (.tup vs)
theorem z31 {m:Mem} {e:Env} {rs:List RV} {K:V->Prop} (h:z1r m e rs K):∃v,results m e rs=some v/\K v:=by
 unfold z1r at h
 split at h
 ·exact⟨_,rfl,h⟩
 ·exact yjl h
 ·obtain⟨vs,h1,h2⟩:=yep _ _ h
  exact⟨_,by simp only [results,h1];rfl,h2⟩
def yqc (rs:List RV) (K:V->Mem->Prop) (x:Ex) (e:Env) (m:Mem):Prop:=
 match x with
 | .normal=>z1r m e rs fun v=>K v m
 | .ret=>z1r m e rs fun v=>K v m
 | .exit _=>False
def yp2:Nat->List V->(Env->Prop)->Prop
 | _,[],K=>K []
 | i,v::r,K=>yp2 (i+1) r fun e=>K ((i,v)::e)
theorem yi5:∀(i:Nat) (l:List V) (K:Env->Prop),yp2 i l K=K (params i l)
 | _,[],_=>rfl
 | i,v::r,K=>by simp only [yp2,params,yi5 (i+1) r]
variable {Γ : Nat -> Option CF} {X : Extern}
def yku (E:Oracle) (lv:Nat) (cf:CF) (args:List V) (m:Mem) (K:V->Mem->Prop):Prop:=yp2 0 args fun e=>wpC E ⟨lv,lv+1⟩ cf.body e m (yqc cf.results K)
theorem In.enter (hE:Lim Γ X E) {lv f:Nat} {args:List V} {m:Mem} {K:V->Mem->Prop} {cf:CF} (hX:X f=none) (hc:Γ f=some cf) (h:yku E lv cf args m K):In E lv f args m K:=by
 simp only [yku,yi5] at h
 obtain⟨x,e',m',h1,h2⟩:=ztq _ _ _ _ h
 refine⟨?_⟩
 rw [hE.fix]
 simp only [step,hX,hc,h1]
 cases x with
 | normal=>
  simp only [yqc] at h2
  obtain⟨v,h3,h4⟩:=z31 h2
  exact⟨v,m',by simp only [h3];rfl,h4⟩
 | ret=>
  simp only [yqc] at h2
  obtain⟨v,h3,h4⟩:=z31 h2
  exact⟨v,m',by simp only [h3];rfl,h4⟩
 | exit i=>exact h2.elim
theorem Fc.enter (hE:Lim Γ X E) {f:Nat} {args:List V} {r:V} {cf:CF} (hX:X f=none) (hc:Γ f=some cf) (h:yku E 0 cf args [] fun v m'=>yl6 m' v fun d=>Ret d r):Fc E f args r:=by
 obtain⟨v,m',h1,h2⟩:=(In.enter hE hX hc h).got
 obtain⟨d,h3,h4⟩:=yfb _ _ _ h2
 exact⟨v,m',h1,by rw [h3,h4.eq]⟩
theorem zae.of {f:Nat} {args:List V} {r:V} {K:V->Prop} (h:Fc E f args r) (hk:K r):zae E f args K:=⟨r,h,hk⟩
def z8q (E:Oracle) (cx:Cx) (live:List Nat) (keep:List Id) (body:C) (K:Ex->Env->Mem->Prop) (x:Ex) (e:Env) (m:Mem):Prop:=
 match x with
 | .normal=>yiz e live fun e2=>gcK keep e2 m fun m2=>zad E cx live keep body e2 m2 K
 | .exit i=>K (.exit i) e m
 | .ret=>K .ret e m
theorem zad.step (hE:Lim Γ X E) {cx:Cx} {live:List Nat} {keep:List Id} {body:C} {e:Env} {m:Mem} {K:Ex->Env->Mem->Prop} (h:wpC E cx body e m (z8q E cx live keep body K)):zad E cx live keep body e m K:=by
 obtain⟨x,e',m',h1,h2⟩:=ztq _ _ _ _ h
 refine⟨?_⟩
 rw [hE.fix]
 simp only [Go.Evl.step,h1]
 cases x with
 | normal=>
  simp only [z8q,z7s,yh5] at h2
  exact h2.got
 | exit i=>exact⟨_,_,_,rfl,h2⟩
 | ret=>exact⟨_,_,_,rfl,h2⟩
theorem zad.mono {cx:Cx} {live:List Nat} {keep:List Id} {body:C} {e:Env} {m:Mem} {K K':Ex->Env->Mem->Prop} (h:zad E cx live keep body e m K) (hk:∀x e m,K x e m->K' x e m):zad E cx live keep body e m K':=by
 obtain⟨x,e',m',h1,h2⟩:=h.got
 exact⟨x,e',m',h1,hk _ _ _ h2⟩
def yp4:List Nat->List V->Env->(Env->Prop)->Prop
 | t::r,v::s,e,K=>yom e t v fun e'=>yp4 r s e' K
 | [],_,e,K=>K e
 | _::_,[],e,K=>K e
theorem ykh:∀(ps:List Nat) (vs:List V) (e:Env) (K:Env->Prop),yp4 ps vs e K=K (yoe ps vs e)
 | [],[],e,K=>rfl
 | [],_::_,e,K=>rfl
 | _::_,[],e,K=>rfl
 | t::r,v::s,e,K=>by simp only [yp4,yoe,z7w,ykh r s]
def yer (o:Id) (ks:List Id) (K:V->Mem->Prop) (x:Ex) (_:Env) (m2:Mem):Prop:=zld m2 o fun ob=>
 match ob with
 | some (.loop e' ps' a' b' lv' true false _)=>
  (match x with
  | .normal=>zx5 m2 o (.loop e' ps' a' b' lv' false false none) fun m3=>gcK ks [] m3 fun m4=>K (.d (.bool true)) m4
  | .exit id=>zx5 m2 o (.loop e' ps' a' b' lv' false true (some (.exit id))) fun m3=>K (.d (.bool false)) m3
  | .ret=>zx5 m2 o (.loop e' ps' a' b' lv' false true (some .ret)) fun m3=>K (.d (.bool false)) m3)
 | _=>False
def yet (E:Oracle) (nx:Nat) (o:Id) (lv:Nat) (b:C) (ks:List Id) (K:V->Mem->Prop) (x:Ex) (e1:Env) (m1:Mem):Prop:=
 match x with
 | .normal=>zld m1 o fun ob=>
  (match ob with
  | some (.loop e' ps' a' b' lv' false false j')=>zx5 m1 o (.loop e' ps' a' b' lv' true false j') fun m2=>wpC E ⟨lv,nx⟩ b e1 m2 (yer o ks K)
  | _=>False)
 | _=>False
def ymr (E:Oracle) (nx:Nat) (o:Id) (args:List V) (m:Mem) (K:V->Mem->Prop):Prop:=zld m o fun ob=>
 match ob with
 | some (.loop e ps a b lv false false _)=>
  (match Nat.beq ps.length args.length with
  | true=>yp4 ps args e fun e0=>ybp m fun ks=>wpC E ⟨lv,nx⟩ a e0 m (yet E nx o lv b ks K)
  | false=>False)
 | _=>False
theorem Rnd.enter (hE:Lim Γ X E) {nx:Nat} {o:Id} {args:List V} {m:Mem} {K:V->Mem->Prop} (h:ymr E nx o args m K):Rnd E nx o args m K:=by
 refine⟨?_⟩
 rw [hE.fix]
 simp only [ymr,zcd] at h
 simp only [Go.Evl.step]
 split at h
 ·rename_i hl
  simp only [hl]
  split at h
  ·rename_i hlen
   rw [if_pos (Nat.eq_of_beq_eq_true hlen)]
   simp only [ykh,zxj] at h
   obtain⟨x,e1,m1,h1,h2⟩:=ztq _ _ _ _ h
   simp only [h1]
   cases x with
   | normal=>
    simp only [yet,zcd] at h2
    split at h2
    ·rename_i hl1
     simp only [hl1]
     rw [zc2] at h2
     obtain⟨x,e2,m2,h3,h4⟩:=ztq _ _ _ _ h2
     simp only [h3]
     simp only [yer,zcd] at h4
     split at h4
     ·rename_i hl2
      simp only [hl2]
      cases x with
      | normal=>
       simp only [zc2,yh5] at h4
       exact⟨_,_,rfl,h4⟩
      | exit i=>
       simp only [zc2] at h4
       exact⟨_,_,rfl,h4⟩
      | ret=>
       simp only [zc2] at h4
       exact⟨_,_,rfl,h4⟩
     ·exact h4.elim
    ·exact h2.elim
   | exit i=>exact h2.elim
   | ret=>exact h2.elim
  ·exact h.elim
 ·exact h.elim
end
end Go.Evl
