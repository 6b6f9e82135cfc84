
/-
 The evaluator's limit, and what is to be shown for code to end well.
-/
import Derived.Test.YtnabmkmhbncidaaGreatDoorEvSyn
namespace Go.Evl
def Le (F G:Oracle):Prop:=∀q r,F q=some r->G q=some r
structure z5r (It:Nat->Oracle) (E:Oracle):Prop where
 up:∀n,Le (It n) (It (n+1))
 lim:∀q r,E q=some r↔∃n,It n q=some r
theorem z5r.le {It:Nat->Oracle} {E:Oracle} (h:z5r It E) {n m:Nat} (hnm:n<=m):Le (It n) (It m):=by
 induction hnm with
 | refl=>exact fun _ _ h=>h
 | step _ ih=>exact fun q r hq=>h.up _ q r (ih q r hq)
structure zcg {α:Type} (It:Nat->Oracle) (E:Oracle) (f:Oracle->Option α):Prop where
 mono:∀F G,Le F G->∀r,f F=some r->f G=some r
 reach:∀r,f E=some r->∃n,f (It n)=some r
section
variable {It : Nat -> Oracle} {E : Oracle} {α β : Type}
theorem zcg.const {f:Oracle->Option α} (h:∀F G,f F=f G):zcg It E f:=
 ⟨fun F G _ _ hr=>(h G F).trans hr,fun _ hr=>⟨0,(h _ E).trans hr⟩⟩
theorem zcg.query (hc:z5r It E) (q:Req):zcg It E (fun F=>F q):=
 ⟨fun _ _ h r hr=>h q r hr,fun r hr=>(hc.lim q r).1 hr⟩
theorem zcg.bind (hc:z5r It E) {f:Oracle->Option α} {k:α->Oracle->Option β} (hf:zcg It E f) (hk:∀a,zcg It E (k a)):zcg It E (fun F=>(f F).bind fun a=>k a F):=by
 refine⟨fun F G h r hr=> ?_,fun r hr=> ?_⟩
 ·obtain⟨a,h1,h2⟩:=Option.bind_eq_some_iff.1 hr
  exact Option.bind_eq_some_iff.2 ⟨a,hf.mono F G h a h1,(hk a).mono F G h r h2⟩
 ·obtain⟨a,h1,h2⟩:=Option.bind_eq_some_iff.1 hr
  obtain⟨n,hn⟩:=hf.reach a h1
  obtain⟨k',hk'⟩:=(hk a).reach r h2
  refine⟨max n k',Option.bind_eq_some_iff.2 ⟨a,hf.mono _ _ (hc.le (Nat.le_max_left _ _)) a hn,(hk a).mono _ _ (hc.le (Nat.le_max_right _ _)) r hk'⟩⟩
theorem zcg.of_eq {f g:Oracle->Option α} (h:∀F,f F=g F) (hg:zcg It E g):zcg It E f:=by
 have:f=g:=funext h
 rw [this];exact hg
theorem zll {p:Prop} [Decidable p] {f g:Oracle->Option α} (hf:zcg It E f) (hg:zcg It E g):zcg It E (fun F=>if p then f F else g F):=by
 by_cases h:p
 ·exact zcg.of_eq (fun F=>if_pos h) hf
 ·exact zcg.of_eq (fun F=>if_neg h) hg
variable (hc : z5r It E)
include hc
theorem zyw (cx:Cx) (f:V) (args:List V) (m:Mem):zcg It E (fun F=>zhm F cx f args m):=by
 cases f with
 | fn f first caps=>
  refine zcg.of_eq (g:=fun F=>(F (.call cx.nx f (first ++args++caps) m)).bind fun r=>match r with| .val v m'=>some (v,m')|_=>none) (fun F=> ?_) (zcg.bind hc (zcg.query hc _) fun r=>zcg.const fun _ _=>rfl)
  simp only [zhm]
  cases F (.call cx.nx f (first ++args++caps) m) with
  | none=>rfl
  | some r=>cases r<;>rfl
 | yld o=>
  refine zcg.of_eq (g:=fun F=>(F (.round cx.nx o args m)).bind fun r=>match r with| .val v m'=>some (v,m')|_=>none) (fun F=> ?_) (zcg.bind hc (zcg.query hc _) fun r=>zcg.const fun _ _=>rfl)
  simp only [zhm]
  cases F (.round cx.nx o args m) with
  | none=>rfl
  | some r=>cases r<;>rfl
 | _=>exact zcg.const fun _ _=>rfl
theorem zlt (cx:Cx) (slot:Nat) (shared imm:Bool) (f:V) (args:List V) (m:Mem):zcg It E (fun F=>zjo F cx slot shared imm f args m):=by
 unfold zjo
 refine zll (zll ?_ (zcg.const fun _ _=>rfl)) ?_
 ·refine zcg.of_eq (g:=fun F=>(zhm F cx f args m).bind fun p=>if zh2 cx.nx (idsAll (zef cx.nx p.2)) then zmu cx slot cx.nx imm (zef cx.nx p.2) p.2 p.1 else none) (fun F=> ?_) (zcg.bind hc (zyw hc cx f args m) fun r=>zcg.const fun _ _=>rfl)
  cases zhm F cx f args m<;>rfl
 ·cases f with
  | fn f first caps=>
   dsimp only
   generalize zeh false m (first ++args++caps)=o
   cases o with
   | none=>exact zcg.const fun _ _=>rfl
   | some ds=>
    refine zcg.of_eq (g:=fun F=>(F (.call 0 f (asV ds) [])).bind fun r=>match r with| .val v m'=>zmu cx slot 0 imm m m' v|_=>none) (fun F=> ?_) (zcg.bind hc (zcg.query hc _) fun r=>zcg.const fun _ _=>rfl)
    simp only
    cases F (.call 0 f (asV ds) []) with
    | none=>rfl
    | some r=>cases r<;>rfl
  | _=>exact zcg.const fun _ _=>rfl
theorem z9d (f:V) (args:List V) (m:Mem):zcg It E (fun F=>zts F f args m):=by
 cases f with
 | fn f first caps=>
  simp only [zts]
  refine zll ?_ (zcg.const fun _ _=>rfl)
  refine zcg.of_eq (g:=fun F=>(F (.call 1 f (zsz (number ⟨0,0⟩ 0 0 (reach 0 m 64 (zeo (first ++args++caps)) [])) (first ++args++caps)) (moved (number ⟨0,0⟩ 0 0 (reach 0 m 64 (zeo (first ++args++caps)) [])) m (number ⟨0,0⟩ 0 0 (reach 0 m 64 (zeo (first ++args++caps)) []))))).bind fun r=>match r with
   | .val v m1=>if z62 m1 (moved (number ⟨0,0⟩ 0 0 (reach 0 m 64 (zeo (first ++args++caps)) [])) m (number ⟨0,0⟩ 0 0 (reach 0 m 64 (zeo (first ++args++caps)) [])))&&(ids v).all (fun i=>((number ⟨0,0⟩ 0 0 (reach 0 m 64 (zeo (first ++args++caps)) [])).map (·.2)).elem i) then some (ren (zml (number ⟨0,0⟩ 0 0 (reach 0 m 64 (zeo (first ++args++caps)) []))) v) else none
   | _=>none) (fun F=> ?_) (zcg.bind hc (zcg.query hc _) fun r=>zcg.const fun _ _=>rfl)
  generalize number ⟨0,0⟩ 0 0 (reach 0 m 64 (zeo (first ++args++caps)) [])=σ
  cases F (.call 1 f (zsz σ (first ++args++caps)) (moved σ m σ)) with
  | none=>rfl
  | some r=>cases r<;>rfl
 | _=>exact zcg.const fun _ _=>rfl
theorem zyx (imm:Bool) (f:V) (args:List V) (m:Mem):zcg It E (fun F=>zrs F imm f args m):=by
 cases f with
 | fn f first caps=>
  simp only [zrs]
  refine zll ?_ (zcg.const fun _ _=>rfl)
  refine zcg.of_eq (g:=fun F=>(F (.call 1 f (zsz (number ⟨0,0⟩ 0 0 (reach 0 m 64 (zeo ((first ++args++caps).map (zuv m))) [])) ((first ++args++caps).map (zuv m))) (moved (number ⟨0,0⟩ 0 0 (reach 0 m 64 (zeo ((first ++args++caps).map (zuv m))) [])) m (number ⟨0,0⟩ 0 0 (reach 0 m 64 (zeo ((first ++args++caps).map (zuv m))) []))))).bind fun r=>match r with
   | .val v m1=>
    if imm then
     if zh2 1 (zm2 (moved (number ⟨0,0⟩ 0 0 (reach 0 m 64 (zeo ((first ++args++caps).map (zuv m))) [])) m (number ⟨0,0⟩ 0 0 (reach 0 m 64 (zeo ((first ++args++caps).map (zuv m))) []))))&&zh2 1 (idsAll (zef 1 m1)) then
      match zmu ⟨0,1⟩ 0 1 true (zef 1 m1) m1 v with
      | some (v',m2)=>if(ids v').all (fun i=>((number ⟨0,0⟩ 0 0 (reach 0 m 64 (zeo ((first ++args++caps).map (zuv m))) [])).map (·.2)).elem i) then(zr7 (number ⟨0,0⟩ 0 0 (reach 0 m 64 (zeo ((first ++args++caps).map (zuv m))) [])) m2 (number ⟨0,0⟩ 0 0 (reach 0 m 64 (zeo ((first ++args++caps).map (zuv m))) [])) m).map fun m'=>(ren (zml (number ⟨0,0⟩ 0 0 (reach 0 m 64 (zeo ((first ++args++caps).map (zuv m))) []))) v',m') else none
      | none=>none
     else none
    else if(ids v).all (fun i=>((number ⟨0,0⟩ 0 0 (reach 0 m 64 (zeo ((first ++args++caps).map (zuv m))) [])).map (·.2)).elem i) then(zr7 (number ⟨0,0⟩ 0 0 (reach 0 m 64 (zeo ((first ++args++caps).map (zuv m))) [])) m1 (number ⟨0,0⟩ 0 0 (reach 0 m 64 (zeo ((first ++args++caps).map (zuv m))) [])) m).map fun m'=>(ren (zml (number ⟨0,0⟩ 0 0 (reach 0 m 64 (zeo ((first ++args++caps).map (zuv m))) []))) v,m') else none
   | _=>none) (fun F=> ?_) (zcg.bind hc (zcg.query hc _) fun r=>zcg.const fun _ _=>rfl)
  generalize number ⟨0,0⟩ 0 0 (reach 0 m 64 (zeo ((first ++args++caps).map (zuv m))) [])=σ
  cases F (.call 1 f (zsz σ ((first ++args++caps).map (zuv m))) (moved σ m σ)) with
  | none=>rfl
  | some r=>cases r<;>rfl
 | _=>exact zcg.const fun _ _=>rfl
theorem zyv {γ:Type} {run:Oracle->γ->Option α} (h:∀a,zcg It E (fun F=>run F a)):∀l:List γ,zcg It E (fun F=>yex (run F) l)
 | []=>zcg.const fun _ _=>rfl
 | a::r=>zcg.bind hc (h a) fun _=>zcg.bind hc (zyv h r) fun _=>zcg.const fun _ _=>rfl
theorem z6f {run:Oracle->Mem->Option (V×Mem)} (h:∀m,zcg It E (fun F=>run F m)) (m:Mem) (v:V):zcg It E (fun F=>znl (run F) m v):=by
 unfold znl
 split
 ·split
  ·exact zll (zcg.bind hc (h _) fun _=>zcg.bind hc (zyv hc (fun _=>h _) _) fun _=>zcg.const fun _ _=>rfl) (zcg.const fun _ _=>rfl)
  ·exact h m
 ·exact h m
theorem zp5 {body:Oracle->Env->Mem->Option (Ex×Env×Mem)} (h:∀e m,zcg It E (fun F=>body F e m)) (it:Nat) (i:Id) (out nxt pair:Nat) (live:List Nat) (keep:List Id):
  ∀(l:List (D×V)) (e:Env) (m:Mem),zcg It E (fun F=>zhz (body F) it i out nxt pair live keep l e m)
 | [],_,_=>zcg.const fun _ _=>rfl
 | (k,v)::r,e,m=>by
  refine zcg.bind hc (h _ _) fun p=> ?_
  unfold zjd
  split
  ·exact zll (zp5 h it i out nxt pair live keep r _ _) (zcg.const fun _ _=>rfl)
  ·exact zcg.const fun _ _=>rfl
theorem z6h {body:Oracle->Env->Mem->Option (Ex×Env×Mem)} (h:∀e m,zcg It E (fun F=>body F e m)) (cx:Cx) (it:Nat) (x:Opd) (out nxt pair:Nat) (live:List Nat) (e:Env) (m:Mem):
  zcg It E (fun F=>zo3 (body F) cx it x out nxt pair live e m):=by
 unfold zo3
 split
 ·split
  ·exact zcg.bind hc (zcg.bind hc (zp5 hc h _ _ _ _ _ _ _ _ _ _) fun _=>zcg.bind hc (zyv hc (fun _=>zp5 hc h _ _ _ _ _ _ _ _ _ _) _) fun _=>zcg.const fun _ _=>rfl) fun _=>zcg.const fun _ _=>rfl
  ·exact zcg.const fun _ _=>rfl
 ·exact zcg.const fun _ _=>rfl
theorem z6g (cx:Cx) (slot:Nat) (e:Env) (m:Mem) (op:COp):zcg It E (fun F=>zdb F cx slot e m op):=by
 cases op with
 | call s i f args=>exact zlt hc cx slot s i _ _ m
 | callD f args=>
  simp only [zdb]
  split
  ·split
   ·exact zlt hc cx slot false true _ _ m
   ·exact zcg.const fun _ _=>rfl
  ·exact zcg.const fun _ _=>rfl
 | callK i f args=>
  refine zcg.of_eq (g:=fun F=>(zjo F cx slot true i (zpu (f.ev e)) (evs e args) m).bind fun p=>if leM m p.2 m=true then some (p.1,m) else none) (fun F=> ?_) (zcg.bind hc (zlt hc cx slot true i _ _ m) fun p=>zcg.const fun _ _=>rfl)
  simp only [zdb]
  cases zjo F cx slot true i (zpu (f.ev e)) (evs e args) m<;>rfl
 | callQ f args=>
  refine zcg.of_eq (g:=fun F=>(zts F (zpu (f.ev e)) (evs e args) m).bind fun v=>some (v,m)) (fun F=> ?_) (zcg.bind hc (z9d hc _ _ m) fun p=>zcg.const fun _ _=>rfl)
  simp only [zdb]
  cases zts F (zpu (f.ev e)) (evs e args) m<;>rfl
 | callU b f args=>exact zyx hc b _ _ m
 | callN f args=>
  simp only [zdb]
  split
  ·split
   ·exact zlt hc cx slot false false _ _ m
   ·exact zcg.const fun _ _=>rfl
  ·exact zcg.const fun _ _=>rfl
 | callB i f args b=>exact z6f hc (fun m=>zlt hc cx slot true i _ _ m) m _
 | callR i f args rs=>
  refine zcg.of_eq (g:=fun F=>(zjo F cx slot true i (zpu (f.ev e)) (evs e args) m).bind fun p=>if z63 m p.2 (rs.map (get e))=true then some p else none) (fun F=> ?_) (zcg.bind hc (zlt hc cx slot true i _ _ m) fun p=>zcg.const fun _ _=>rfl)
  simp only [zdb]
  cases zjo F cx slot true i (zpu (f.ev e)) (evs e args) m<;>rfl
 | _=>exact zcg.const fun _ _=>rfl
theorem ydv (cx:Cx) (e:Env) (m:Mem) (o:CO):zcg It E (fun F=>ze9 F cx e m o):=by
 obtain⟨dst,guard,op⟩:=o
 cases guard with
 | none=>exact z6g hc cx _ e m op
 | some g=>
  obtain⟨t,want⟩:=g
  simp only [ze9]
  split
  ·split
   ·exact z6g hc cx _ e m op
   ·exact zcg.const fun _ _=>rfl
  ·exact zcg.const fun _ _=>rfl
  ·exact zcg.const fun _ _=>rfl
theorem znx (cx:Cx):∀(os:List CO) (e:Env) (m:Mem),zcg It E (fun F=>zkk F cx os e m)
 | [],e,m=>zcg.const fun _ _=>rfl
 | o::r,e,m=>by
  refine zcg.of_eq (g:=fun F=>(ze9 F cx e m o).bind fun p=>zkk F cx r (put? e o.dst p.1) p.2) (fun F=> ?_) (zcg.bind hc (ydv hc cx e m o) fun p=>znx cx r _ _)
  simp only [zkk]
  cases ze9 F cx e m o<;>rfl
def ypd:Res->Option (Ex×Env×Mem)
 | .st x e' m'=>some (x,e',m')
 | _=>none
def ykf (cx:Cx) (i:Id) (e:Env):Res->Option (Ex×Env×Mem)
 | .val _ m'=>
  match look m' i with
  | some (.loop _ _ _ _ _ false _ j)=>
   if zh2 cx.nx (idsAll (zef cx.nx m')) then
    let m2:=upd (zef cx.nx m') i .gone
    match j with
    | none=>some (.normal,e,m2)
    | some j=>some (j.ex,e,m2)
   else none
  | _=>none
 | _=>none
theorem zi4 (cx:Cx):∀(c:C) (e:Env) (m:Mem),zcg It E (fun F=>evC F cx c e m)
 | .skip,e,m=>zcg.const fun _ _=>rfl
 | .label,e,m=>zcg.const fun _ _=>rfl
 | .exit _,e,m=>zcg.const fun _ _=>rfl
 | .ret,e,m=>zcg.const fun _ _=>rfl
 | .bad,e,m=>zcg.const fun _ _=>rfl
 | .scope c,e,m=>by simp only [evC];exact zi4 cx c e m
 | .reg _ ops kill,e,m=>by
  refine zcg.of_eq (g:=fun F=>(zkk F cx ops e m).bind fun p=>some (.normal,ziq kill p.1,p.2)) (fun F=> ?_) (zcg.bind hc (znx hc cx ops e m) fun p=>zcg.const fun _ _=>rfl)
  simp only [evC]
  cases zkk F cx ops e m<;>rfl
 | .regC ops kill chk,e,m=>zcg.bind hc (znx hc cx ops e m) fun p=>zcg.const fun _ _=>rfl
 | .seq a b,e,m=>by
  refine zcg.of_eq (g:=fun F=>(evC F cx a e m).bind fun p=>match p with|(.normal,e',m')=>evC F cx b e' m'|p=>some p) (fun F=> ?_) (zcg.bind hc (zi4 cx a e m) fun p=> ?_)
  ·simp only [evC]
   cases evC F cx a e m with
   | none=>rfl
   | some p=>obtain⟨x,e',m'⟩:=p;cases x<;>rfl
  ·obtain⟨x,e',m'⟩:=p
   cases x with
   | normal=>exact zi4 cx b e' m'
   | _=>exact zcg.const fun _ _=>rfl
 | .cond c a b,e,m=>by
  simp only [evC]
  split
  ·exact zll (zi4 cx a e m) (zi4 cx b e m)
  ·exact zcg.const fun _ _=>rfl
 | .block id c,e,m=>by
  refine zcg.of_eq (g:=fun F=>(evC F cx c e m).bind fun p=>match p with|(.exit j,e',m')=>if j=id then some (.normal,e',m') else some (.exit j,e',m')|p=>some p) (fun F=> ?_) (zcg.bind hc (zi4 cx c e m) fun p=>zcg.const fun _ _=>rfl)
  simp only [evC]
  cases evC F cx c e m with
  | none=>rfl
  | some p=>obtain⟨x,e',m'⟩:=p;cases x<;>rfl
 | .loop live c,e,m=>by
  refine zcg.of_eq (g:=fun F=>(F (.loop cx live (zm2 m) c (only live e) (gc (zm2 m) (only live e) m))).bind ypd) (fun F=> ?_) (zcg.bind hc (zcg.query hc _) fun p=>zcg.const fun _ _=>rfl)
  simp only [evC]
  cases F (.loop cx live (zm2 m) c (only live e) (gc (zm2 m) (only live e) m)) with
  | none=>rfl
  | some r=>cases r<;>rfl
 | .rangeM pre it x out nxt pair live ops kill code,e,m=>by
  simp only [evC]
  exact zcg.bind hc (znx hc cx pre e m) fun p=>z6h hc (fun e m=>zcg.bind hc (znx hc cx ops e m) fun q=>zi4 cx code _ _) _ _ _ _ _ _ _ _ _
 | .rangeFn slot f ps a b,e,m=>by
  simp only [evC]
  refine zll ?_ (zcg.const fun _ _=>rfl)
  cases f.ev e with
  | fn g first caps=>
   refine zcg.of_eq (g:=fun F=>(F (.call cx.nx g (first ++[.yld (newId cx slot m)]++caps) (upd m (newId cx slot m) (.loop e ps a b cx.lv false false none)))).bind (ykf cx (newId cx slot m) e)) (fun F=> ?_) (zcg.bind hc (zcg.query hc _) fun p=>zcg.const fun _ _=>rfl)
   simp only
   cases F (.call cx.nx g (first ++[.yld (newId cx slot m)]++caps) (upd m (newId cx slot m) (.loop e ps a b cx.lv false false none))) with
   | none=>rfl
   | some r=>cases r<;>rfl
  | _=>exact zcg.const fun _ _=>rfl
theorem z6i (Γ:Nat->Option CF) (X:Extern) (q:Req):zcg It E (fun F=>step Γ X F q):=by
 cases q with
 | call lv f args m=>
  simp only [step]
  cases X f with
  | some x=>exact zcg.const fun _ _=>rfl
  | none=>
   cases Γ f with
   | none=>exact zcg.const fun _ _=>rfl
   | some cf=>
    refine zcg.of_eq (g:=fun F=>(evC F ⟨lv,lv+1⟩ cf.body (params 0 args) m).bind fun p=>match p with|(.normal,e,m')=>(results m' e cf.results).map fun v=> .val v m'|(.ret,e,m')=>(results m' e cf.results).map fun v=> .val v m'|_=>none) (fun F=> ?_) (zcg.bind hc (zi4 hc _ _ _ _) fun p=>zcg.const fun _ _=>rfl)
    simp only
    cases evC F ⟨lv,lv+1⟩ cf.body (params 0 args) m with
    | none=>rfl
    | some p=>obtain⟨x,e',m'⟩:=p;cases x<;>rfl
 | round nx o args m=>
  simp only [step]
  split
  ·rename_i e ps a b lv j hl
   refine zll ?_ (zcg.const fun _ _=>rfl)
   refine zcg.of_eq (g:=fun F=>(evC F ⟨lv,nx⟩ a (yof ps args e) m).bind fun p=>match p with
    | (.normal,e1,m1)=>(match look m1 o with
     | some (.loop e' ps' a' b' lv' false false j')=>(evC F ⟨lv,nx⟩ b e1 (upd m1 o (.loop e' ps' a' b' lv' true false j'))).bind fun p=>match p with
      | (x,_,m2)=>match look m2 o with
       | some (.loop e' ps' a' b' lv' true false _)=>(match x with
        | .normal=>some (.val (.d (.bool true)) (gc (zm2 m) [] (upd m2 o (.loop e' ps' a' b' lv' false false none))))
        | .exit id=>some (.val (.d (.bool false)) (upd m2 o (.loop e' ps' a' b' lv' false true (some (.exit id)))))
        | .ret=>some (.val (.d (.bool false)) (upd m2 o (.loop e' ps' a' b' lv' false true (some .ret)))))
       | _=>none
     | _=>none)
    | _=>none) (fun F=> ?_) (zcg.bind hc (zi4 hc _ _ _ _) fun p=> ?_)
   ·simp only
    cases evC F ⟨lv,nx⟩ a (yof ps args e) m with
    | none=>rfl
    | some p=>
     obtain⟨x,e',m'⟩:=p
     cases x with
     | normal=>
      simp only [Option.bind]
      split
      ·rename_i e2 ps2 a2 b2 lv2 j2 hlk
       simp only [hlk]
       cases evC F ⟨lv,nx⟩ b e' (upd m' o (.loop e2 ps2 a2 b2 lv2 true false j2)) with
       | none=>rfl
       | some p=>rfl
      ·rename_i hno
       split
       ·rename_i hlk
        exact absurd hlk (hno _ _ _ _ _ _)
       ·rfl
     | exit id=>rfl
     | ret=>rfl
   ·obtain⟨x,e1,m1⟩:=p
    cases x with
    | normal=>
     simp only
     split
     ·exact zcg.bind hc (zi4 hc _ _ _ _) fun p=>zcg.const fun _ _=>rfl
     ·exact zcg.const fun _ _=>rfl
    | _=>exact zcg.const fun _ _=>rfl
  ·exact zcg.const fun _ _=>rfl
 | loop cx live keep body e m=>
  simp only [step]
  refine zcg.of_eq (g:=fun F=>(evC F cx body e m).bind fun p=>match p with|(.normal,e',m')=>F (.loop cx live keep body (only live e') (gc keep (only live e') m'))|(x,e',m')=>some (.st x e' m')) (fun F=> ?_) (zcg.bind hc (zi4 hc _ _ _ _) fun p=> ?_)
  ·cases evC F cx body e m with
   | none=>rfl
   | some p=>obtain⟨x,e',m'⟩:=p;cases x<;>rfl
  ·obtain⟨x,e',m'⟩:=p
   cases x with
   | normal=>exact zcg.query hc _
   | _=>exact zcg.const fun _ _=>rfl
end
structure Lim (Γ:Nat->Option CF) (X:Extern) (E:Oracle):Prop where
 fix:∀q,E q=step Γ X E q
 reach:∀q r,E q=some r->∃n,iter Γ X n q=some r
theorem z0b {Γ:Nat->Option CF} {X:Extern} {F G:Oracle} (h:Le F G):Le (step Γ X F) (step Γ X G):=by
 have hc:z5r (fun _=>G) G:=⟨fun _ _ _ h=>h,fun _ _=>⟨fun h=>⟨0,h⟩,fun h=>h.elim fun _ h=>h⟩⟩
 exact fun q r hr=>(z6i hc Γ X q).mono F G h r hr
theorem z9s (Γ:Nat->Option CF) (X:Extern):∀n,Le (iter Γ X n) (iter Γ X (n+1))
 | 0=>fun _ _ h=>by simp [iter] at h
 | n+1=>z0b (z9s Γ X n)
theorem exists_lim (Γ:Nat->Option CF) (X:Extern):∃E,Lim Γ X E:=by
 have hd:∀q:Req,∃a:Option Res,∀r,a=some r↔∃n,iter Γ X n q=some r:=by
  intro q
  by_cases h:∃r,∃n,iter Γ X n q=some r
  ·obtain⟨r,n,hn⟩:=h
   refine⟨some r,fun r'=>⟨fun h=>⟨n,by rw [hn,h]⟩,fun⟨k,hk⟩=> ?_⟩⟩
   have up:∀a b,a<=b->Le (iter Γ X a) (iter Γ X b):=by
    intro a b hab
    induction hab with
    | refl=>exact fun _ _ h=>h
    | step _ ih=>exact fun q r hq=>z9s Γ X _ q r (ih q r hq)
   rw [<-up n (max n k) (Nat.le_max_left _ _) q r hn,up k (max n k) (Nat.le_max_right _ _) q r' hk]
  ·exact⟨none,fun r=>⟨fun h=>(nomatch h),fun hn=>absurd ⟨r,hn⟩ h⟩⟩
 have ⟨E,hE⟩:=Classical.axiomOfChoice hd
 have hc:z5r (iter Γ X) E:=⟨z9s Γ X,hE⟩
 refine⟨E,⟨fun q=> ?_,fun q r h=>(hE q r).1 h⟩⟩
 apply Option.ext
 intro r
 constructor
 ·intro h
  obtain⟨n,hn⟩:=(hE q r).1 h
  cases n with
  | zero=>simp [iter] at hn
  | succ n=>exact z0b (fun q r h=>(hE q r).2 ⟨n,h⟩) q r hn
 ·intro h
  obtain⟨n,hn⟩:=(z6i hc Γ X q).reach r h
  exact(hE q r).2 ⟨n+1,hn⟩
theorem Lim.of_iter {Γ:Nat->Option CF} {X:Extern} {E:Oracle} (h:Lim Γ X E):∀(n:Nat) (q:Req) (r:Res),iter Γ X n q=some r->E q=some r
 | 0,_,_,hn=>by simp [iter] at hn
 | n+1,q,r,hn=>by
  rw [h.fix]
  exact z0b (fun q r=>h.of_iter n q r) q r hn
end Go.Evl
namespace Go.Evl
structure zco (p k:Prop):Prop where
 need:p
 go:k
structure Br (t:Bool) (a b:Prop):Prop where
 yes:t=true->a
 no:t=false->b
structure Cmp (p a b:Prop):Prop where
 yes:p->a
 no:¬p->b
structure Wr (k:IntKind) (x:Int) (K:Int->Prop):Prop where
 go:K (k.wrap x)
structure Rem (a b:Int) (K:Int->Prop):Prop where
 ne:b≠0
 go:K (a.tmod b)
structure Quo (k:IntKind) (a b:Int) (K:Int->Prop):Prop where
 ne:b≠0
 go:K (k.wrap (a.tdiv b))
structure zfo (cs:List D) (off:Nat) (K:D->Prop):Prop where
 got:∃d,cs[off]? =some d/\K d
structure ydn (cs:List V) (off:Nat) (K:V->Prop):Prop where
 got:∃d,cs[off]? =some d/\K d
structure z3g (cs:List D) (off n:Nat) (K:List D->Prop):Prop where
 le:off+n<=cs.length
 go:K (win cs off n)
structure zpv (s:List UInt8) (i:Nat) (K:UInt8->Prop):Prop where
 got:∃b,s[i]? =some b/\K b
structure zux {α:Type} (o:Option α) (K:α->Prop):Prop where
 got:∃a,o=some a/\K a
def Fc (E:Oracle) (f:Nat) (args:List V) (r:V):Prop:=∃v m',E (.call 0 f args [])=some (.val v m')/\ya1 m' v=some r
structure zak (E:Oracle) (f:Nat) (args:List V) (K:V->Prop):Prop where
 got:∃r,Fc E f args r/\K r
structure zcf (E:Oracle) (f:Nat) (args:List V) (cx:Cx) (slot:Nat) (m:Mem) (K:V->Mem->Prop):Prop where
 got:∃v m' p,E (.call 0 f args [])=some (.val v m')/\settle cx slot 0 m m' v=some p/\K p.1 p.2
structure In (E:Oracle) (lv f:Nat) (args:List V) (m:Mem) (K:V->Mem->Prop):Prop where
 got:∃v m',E (.call lv f args m)=some (.val v m')/\K v m'
structure Rnd (E:Oracle) (nx:Nat) (o:Id) (args:List V) (m:Mem) (K:V->Mem->Prop):Prop where
 got:∃v m',E (.round nx o args m)=some (.val v m')/\K v m'
structure zam (E:Oracle) (cx:Cx) (live:List Nat) (keep:List Id) (body:C) (e:Env) (m:Mem) (K:Ex->Env->Mem->Prop):Prop where
 got:∃x e' m',E (.loop cx live keep body e m)=some (.st x e' m')/\K x e' m'
structure Chk (b:Bool) (k:Prop):Prop where
 need:b=true
 go:k
structure Ret (a b:V):Prop where
 eq:a=b
def yjp:Env->Nat->(V->Prop)->Prop
 | [],_,K=>K .undef
 | (u,v)::r,t,K=>match Nat.beq u t with
  | true=>K v
  | false=>yjp r t K
theorem zss:∀(e:Env) (t:Nat) (K:V->Prop),yjp e t K=K (get e t)
 | [],_,_=>rfl
 | (u,v)::r,t,K=>by
  simp only [yjp,get]
  cases h:Nat.beq u t with
  | true=>simp [Nat.eq_of_beq_eq_true h]
  | false=>
   have:u≠t:=fun hh=>by rw [hh,Nat.beq_refl] at h;cases h
   simp only [if_neg this]
   exact zss r t K
def opK (e:Env) (x:Opd) (K:V->Prop):Prop:=
 match x with
 | .t n=>yjp e n K
 | .k v=>K v
theorem zcs (e:Env) (x:Opd) (K:V->Prop):opK e x K=K (x.ev e):=by
 cases x with
 | t n=>exact zss e n K
 | k v=>rfl
def z8w (e:Env):List Opd->(List V->Prop)->Prop
 | [],K=>K []
 | x::r,K=>opK e x fun v=>z8w e r fun vs=>K (v::vs)
theorem zjw (e:Env):∀(l:List Opd) (K:List V->Prop),z8w e l K=K (evs e l)
 | [],_=>rfl
 | x::r,K=>by simp only [z8w,evs,zcs,zjw e r]
def ydw (e:Env):List Nat->(List V->Prop)->Prop
 | [],K=>K []
 | t::r,K=>yjp e t fun v=>ydw e r fun vs=>K (v::vs)
theorem zxh (e:Env):∀(l:List Nat) (K:List V->Prop),ydw e l K=K (l.map (get e))
 | [],_=>rfl
 | t::r,K=>by simp only [ydw,zss,zxh e r,List.map_cons]
def opK? (e:Env) (x:Option Opd) (K:Option V->Prop):Prop:=
 match x with
 | none=>K none
 | some x=>opK e x fun v=>K (some v)
theorem opK?_eq (e:Env) (x:Option Opd) (K:Option V->Prop):opK? e x K=K (x.map (·.ev e)):=by
 cases x with
 | none=>rfl
 | some x=>exact zcs e x _
def ypm:Env->Nat->V->(Env->Prop)->Prop
 | [],t,v,K=>K [(t,v)]
 | (u,x)::r,t,v,K=>match Nat.beq u t with
  | true=>K ((t,v)::r)
  | false=>ypm r t v fun r'=>K ((u,x)::r')
theorem yaf:∀(e:Env) (t:Nat) (v:V) (K:Env->Prop),ypm e t v K=K (put e t v)
 | [],_,_,_=>rfl
 | (u,x)::r,t,v,K=>by
  simp only [ypm,put]
  cases h:Nat.beq u t with
  | true=>simp [Nat.eq_of_beq_eq_true h]
  | false=>
   have:u≠t:=fun hh=>by rw [hh,Nat.beq_refl] at h;cases h
   simp only [if_neg this]
   exact yaf r t v _
def put?K (e:Env) (t:Option Nat) (v:V) (K:Env->Prop):Prop:=
 match t with
 | none=>K e
 | some t=>ypm e t v K
theorem put?K_eq (e:Env) (t:Option Nat) (v:V) (K:Env->Prop):put?K e t v K=K (put? e t v):=by
 cases t with
 | none=>rfl
 | some t=>exact yaf e t v K
def yqf:List Nat->Nat->Bool
 | [],_=>false
 | u::r,t=>match Nat.beq u t with
  | true=>true
  | false=>yqf r t
theorem ygj:∀(l:List Nat) (t:Nat),yqf l t=l.elem t
 | [],_=>rfl
 | u::r,t=>by
  simp only [yqf]
  cases h:Nat.beq u t with
  | true=>simp [Nat.eq_of_beq_eq_true h]
  | false=>
   have:t≠u:=fun hh=>by rw [hh,Nat.beq_refl] at h;cases h
   simp only [ygj r t,List.elem_cons]
   have:(t==u)=false:=by simpa using this
   rw [this]
def zq4 (kill:List Nat):Env->(Env->Prop)->Prop
 | [],K=>K []
 | (u,v)::r,K=>match yqf kill u with
  | true=>zq4 kill r K
  | false=>zq4 kill r fun r'=>K ((u,v)::r')
theorem zo7 (kill:List Nat):∀(e:Env) (K:Env->Prop),zq4 kill e K=K (ziq kill e)
 | [],_=>rfl
 | (u,v)::r,K=>by
  simp only [zq4,ygj]
  cases h:kill.elem u with
  | true=>
   have hm:u∈kill:=by simpa using h
   simp only [zo7 kill r];simp [ziq,hm]
  | false=>
   have hm:u∉kill:=by simpa using h
   simp only [zo7 kill r];simp [ziq,hm]
def yg3 (e:Env):List Nat->(Env->Prop)->Prop
 | [],K=>K []
 | t::r,K=>yjp e t fun v=>yg3 e r fun r'=>K ((t,v)::r')
theorem z41 (e:Env):∀(live:List Nat) (K:Env->Prop),yg3 e live K=K (only live e)
 | [],_=>rfl
 | t::r,K=>by simp only [yg3,zss,z41 e r];rfl
def idB (i j:Id):Bool:=
 match Nat.beq i.slot j.slot with
 | true=>(match Nat.beq i.lv j.lv with
  | true=>Nat.beq i.k j.k
  | false=>false)
 | false=>false
theorem z4g {i j:Id} (h:idB i j=true):i=j:=by
 obtain⟨a,b,c⟩:=i
 obtain⟨x,y,z⟩:=j
 simp only [idB] at h
 split at h
 ·rename_i h1
  split at h
  ·rename_i h2
   rw [Nat.eq_of_beq_eq_true h1,Nat.eq_of_beq_eq_true h2,Nat.eq_of_beq_eq_true h]
  ·cases h
 ·cases h
theorem zy7 {i j:Id} (h:idB i j=false):i≠j:=by
 rintro rfl
 obtain⟨a,b,c⟩:=i
 simp [idB,Nat.beq_refl] at h
def zlo:Mem->Id->(Option Ob->Prop)->Prop
 | [],_,K=>K none
 | (j,o)::r,i,K=>match idB j i with
  | true=>K (some o)
  | false=>zlo r i K
theorem zdg:∀(m:Mem) (i:Id) (K:Option Ob->Prop),zlo m i K=K (look m i)
 | [],_,_=>rfl
 | (j,o)::r,i,K=>by
  simp only [zlo,look]
  cases h:idB j i with
  | true=>simp [z4g h]
  | false=>simp only [if_neg (zy7 h)];exact zdg r i K
def zxw:Mem->Id->Ob->(Mem->Prop)->Prop
 | [],i,o,K=>K [(i,o)]
 | (j,x)::r,i,o,K=>match idB j i with
  | true=>K ((i,o)::r)
  | false=>zxw r i o fun r'=>K ((j,x)::r')
theorem ze0:∀(m:Mem) (i:Id) (o:Ob) (K:Mem->Prop),zxw m i o K=K (upd m i o)
 | [],_,_,_=>rfl
 | (j,x)::r,i,o,K=>by
  simp only [zxw,upd]
  cases h:idB j i with
  | true=>simp [z4g h]
  | false=>simp only [if_neg (zy7 h)];exact ze0 r i o _
def yol:List Id->Id->Bool
 | [],_=>false
 | u::r,t=>match idB u t with
  | true=>true
  | false=>yol r t
theorem ygi:∀(l:List Id) (t:Id),yol l t=l.elem t
 | [],_=>rfl
 | u::r,t=>by
  simp only [yol]
  cases h:idB u t with
  | true=>simp [z4g h]
  | false=>
   have h':t≠u:=fun hh=>zy7 h hh.symm
   simp only [ygi r t,List.elem_cons]
   have:(t==u)=false:=by simpa using h'
   rw [this]
def gcF (a b c:List Id):Mem->(Mem->Prop)->Prop
 | [],K=>K []
 | (i,o)::r,K=>match yol a i with
  | true=>gcF a b c r fun r'=>K ((i,o)::r')
  | false=>(match yol b i with
   | true=>gcF a b c r fun r'=>K ((i,o)::r')
   | false=>(match yol c i with
    | true=>gcF a b c r fun r'=>K ((i,o)::r')
    | false=>gcF a b c r K))
theorem ylr (a b c:List Id):∀(m:Mem) (K:Mem->Prop),gcF a b c m K=K (m.filter fun p=>a.elem p.1||b.elem p.1||c.elem p.1)
 | [],_=>rfl
 | (i,o)::r,K=>by
  simp only [gcF,ygi]
  cases ha:a.elem i<;>cases hb:b.elem i<;>cases hc:c.elem i<;>simp only [ylr a b c r,List.filter_cons,ha,hb,hc]<;>rfl
def gcK (keep:List Id) (e:Env) (m:Mem) (K:Mem->Prop):Prop:=
 match m with
 | []=>K []
 | _::_=>gcF keep (yez e) (idsAll m) m fun m1=>gcF keep (yez e) (idsAll m1) m1 fun m2=>gcF keep (yez e) (idsAll m2) m2 K
theorem yfz (keep:List Id) (e:Env) (m:Mem) (K:Mem->Prop):gcK keep e m K=K (gc keep e m):=by
 cases m with
 | nil=>rfl
 | cons p r=>simp only [gcK,ylr];rfl
def z15 (lv slot:Nat):Mem->(Nat->Prop)->Prop
 | [],K=>K 0
 | (j,_)::r,K=>match Nat.beq j.slot slot with
  | true=>(match Nat.beq j.lv lv with
   | true=>z15 lv slot r fun n=>K (max (j.k+1) n)
   | false=>z15 lv slot r K)
  | false=>z15 lv slot r K
theorem ztx (lv slot:Nat):∀(m:Mem) (K:Nat->Prop),z15 lv slot m K=K (freeK lv slot m)
 | [],_=>rfl
 | (j,o)::r,K=>by
  simp only [z15,freeK]
  cases h1:Nat.beq j.slot slot with
  | false=>
   have:j.slot≠slot:=fun hh=>by rw [hh,Nat.beq_refl] at h1;cases h1
   simp only [this,and_false,if_false]
   exact ztx lv slot r K
  | true=>
   cases h2:Nat.beq j.lv lv with
   | false=>
    have:j.lv≠lv:=fun hh=>by rw [hh,Nat.beq_refl] at h2;cases h2
    simp only [this,false_and,if_false]
    exact ztx lv slot r K
   | true=>simp only [Nat.eq_of_beq_eq_true h1,Nat.eq_of_beq_eq_true h2,and_self,if_true,ztx lv slot r]
def ygn (cx:Cx) (slot:Nat) (m:Mem) (K:Id->Prop):Prop:=z15 cx.lv slot m fun n=>K ⟨cx.lv,slot,n⟩
theorem znp (cx:Cx) (slot:Nat) (m:Mem) (K:Id->Prop):ygn cx slot m K=K (newId cx slot m):=ztx _ _ _ _
def z9r (cx:Cx) (slot:Nat):List ya9->Mem->(List V->Mem->Prop)->Prop
 | [],m,K=>K [] m
 | .z x::r,m,K=>z9r cx slot r m fun vs m'=>K (.d x::vs) m'
 | .own s::r,m,K=>ygn cx slot m fun i=>zxw m i (.row s.wr s.t s.sz 0 []) fun m1=>z9r cx slot r m1 fun vs m'=>K (.ref i 0 0 0::vs) m'
theorem zxi (cx:Cx) (slot:Nat):∀(l:List ya9) (m:Mem) (K:List V->Mem->Prop),z9r cx slot l m K=K (zbi cx slot l m).1 (zbi cx slot l m).2
 | [],_,_=>rfl
 | .z x::r,m,K=>by simp only [z9r,zbi,zxi cx slot r]
 | .own s::r,m,K=>by simp only [z9r,zbi,znp,ze0,zxi cx slot r]
mutual
def zhe (any:Bool) (m:Mem):V->(D->Prop)->Prop
 | .d x,K=>K x
 | .agg cs,K=>zty any m cs fun ds=>K (.agg ds)
 | .fn f [] [],K=>K (.fn f)
 | .ref o off len top,K=>zlo m o fun x=>
  match x with
  | some (.row wr _ sz n xs)=>
   (match (!wr||any) with
   | true=>zco (n=top/\off+len<=n) (K (.list len (if off=0/\len=n then xs else win xs (off*sz) (len*sz))))
   | false=>False)
  | _=>False
 | _,_=>False
def zty (any:Bool) (m:Mem):List V->(List D->Prop)->Prop
 | [],K=>K []
 | v::r,K=>zhe any m v fun d=>zty any m r fun ds=>K (d::ds)
end
mutual
theorem zqr (any:Bool) (m:Mem):∀(v:V) (K:D->Prop),zhe any m v K->∃d,freeze any m v=some d/\K d
 | .d x,K,h=>⟨x,rfl,h⟩
 | .agg cs,K,h=>by
  obtain⟨ds,h1,h2⟩:=zoo any m cs _ h
  exact⟨_,by simp only [freeze,h1];rfl,h2⟩
 | .ref o off len top,K,h=>by
  simp only [zhe,zdg] at h
  simp only [freeze]
  cases hl:look m o with
  | none=>rw [hl] at h;exact h.elim
  | some x=>
   rw [hl] at h
   cases x with
   | row wr t sz n xs=>
    simp only at h ⊢
    split at h
    ·rename_i hw
     have hc:(wr=false\/any=true)/\n=top/\off+len<=n:=⟨by cases wr<;>simp_all,h.need⟩
     exact⟨_,if_pos hc,h.go⟩
    ·exact h.elim
   | _=>exact h.elim
 | .tup _,_,h=>(by simp only [zhe] at h)
 | .ptr ..,_,h=>(by simp only [zhe] at h)
 | .lptr ..,_,h=>(by simp only [zhe] at h)
 | .fn f [] [],K,h=>⟨_,rfl,h⟩
 | .fn _ (_::_) _,_,h=>(by simp only [zhe] at h)
 | .fn _ [] (_::_),_,h=>(by simp only [zhe] at h)
 | .yld _,_,h=>(by simp only [zhe] at h)
 | .mp _,_,h=>(by simp only [zhe] at h)
 | .it _,_,h=>(by simp only [zhe] at h)
 | .skip,_,h=>(by simp only [zhe] at h)
 | .undef,_,h=>(by simp only [zhe] at h)
theorem zoo (any:Bool) (m:Mem):∀(vs:List V) (K:List D->Prop),zty any m vs K->∃ds,zeh any m vs=some ds/\K ds
 | [],K,h=>⟨[],rfl,h⟩
 | v::r,K,h=>by
  obtain⟨d,h1,h2⟩:=zqr any m v _ h
  obtain⟨ds,h3,h4⟩:=zoo any m r _ h2
  exact⟨d::ds,by simp only [zeh,h1,h3],h4⟩
end
def yoi:List D->(List V->Prop)->Prop
 | [],K=>K []
 | x::r,K=>yoi r fun vs=>K (.d x::vs)
theorem z3m:∀(l:List D) (K:List V->Prop),yoi l K=K (asV l)
 | [],_=>rfl
 | x::r,K=>by simp only [yoi,asV,z3m r]
def yk7 (m:Mem) (v:V) (K:V->Prop):Prop:=
 match v with
 | .tup vs=>zty true m vs fun xs=>yoi xs fun ys=>K (.tup ys)
 | v=>zhe true m v fun d=>K (.d d)
theorem ydj (m:Mem) (v:V) (K:V->Prop) (h:yk7 m v K):∃r,ya1 m v=some r/\K r:=by
 have simple:∀v:V,(∀vs,v≠ .tup vs)->zhe true m v (fun d=>K (.d d))->∃r,ya1 m v=some r/\K r:=by
  intro v hv h
  obtain⟨d,h1,h2⟩:=zqr true m v _ h
  refine⟨.d d,?_,h2⟩
  unfold ya1
  split
  ·rename_i vs;exact absurd rfl (hv vs)
  ·rw [h1];rfl
 cases v with
 | tup vs=>
  obtain⟨xs,h1,h2⟩:=zoo true m vs _ h
  rw [z3m] at h2
  exact⟨_,by simp only [ya1,h1];rfl,h2⟩
 | _=>exact simple _ (by intro vs hh;cases hh) h
def yi5:List V->(Option (List D)->Prop)->Prop
 | [],K=>K (some [])
 | .d x::r,K=>yi5 r fun o=>
  match o with
  | some ds=>K (some (x::ds))
  | none=>K none
 | _::_,K=>K none
theorem ybd:∀(l:List V) (K:Option (List D)->Prop),yi5 l K=K (zrq l)
 | [],_=>rfl
 | v::r,K=>by
  cases v with
  | d x=>simp only [yi5,zrq,ybd r];cases zrq r<;>rfl
  | _=>rfl
def yqe (cs:List V) (K:V->Prop):Prop:=yi5 cs fun o=>
 match o with
 | some ds=>K (.d (.agg ds))
 | none=>K (.agg cs)
theorem ye6 (cs:List V) (K:V->Prop):yqe cs K=K (z9z cs):=by
 simp only [yqe,ybd,z9z]
 cases zrq cs<;>rfl
def z6b (v:V) (K:List V->Prop):Prop:=
 match v with
 | .d (.agg cs)=>yoi cs K
 | .agg cs=>K cs
 | .tup _=>False
 | .skip=>False
 | .undef=>False
 | v=>K [v]
theorem zyr (v:V) (K:List V->Prop) (h:z6b v K):∃cs,cellsOf v=some cs/\K cs:=by
 cases v with
 | d x=>
  cases x with
  | agg cs=>simp only [z6b,z3m] at h;exact⟨_,rfl,h⟩
  | _=>exact⟨_,rfl,h⟩
 | tup _=>exact h.elim
 | skip=>exact h.elim
 | undef=>exact h.elim
 | _=>exact⟨_,rfl,h⟩
def over {α:Type}:List α->Nat->List α->List α
 | cs,0,[]=>cs
 | _::cs,0,x::xs=>x::over cs 0 xs
 | c::cs,n+1,xs=>c::over cs n xs
 | [],_,_=>[]
theorem z7i {α:Type}:∀(cs xs:List α),xs.length<=cs.length->over cs 0 xs=xs++cs.drop xs.length
 | cs,[],_=>by simp [over]
 | [],x::xs,h=>by simp at h
 | c::cs,x::xs,h=>by
  simp only [over,z7i cs xs (by simpa using h)]
  simp
theorem yab {α:Type}:∀(cs:List α) (off:Nat) (xs:List α),off+xs.length<=cs.length->over cs off xs=patch cs off xs
 | cs,0,xs,h=>by
  rw [z7i cs xs (by omega)]
  simp [patch]
 | [],n+1,xs,h=>by simp at h
 | c::cs,n+1,xs,h=>by
  simp only [over,yab cs n xs (by simp at h;omega),patch]
  simp [Nat.add_right_comm]
def z05 {α:Type}:List α->Nat->List α->(List α->Prop)->Prop
 | cs,0,[],K=>K cs
 | _::cs,0,x::xs,K=>z05 cs 0 xs fun r=>K (x::r)
 | c::cs,n+1,xs,K=>z05 cs n xs fun r=>K (c::r)
 | [],_,_,K=>K []
theorem zxn {α:Type}:∀(cs:List α) (off:Nat) (xs:List α) (K:List α->Prop),z05 cs off xs K=K (over cs off xs)
 | cs,0,[],K=>by simp only [z05,over]
 | [],0,x::xs,K=>by simp only [z05,over]
 | c::cs,0,x::xs,K=>by simp only [z05,over,zxn cs 0 xs]
 | [],n+1,xs,K=>by simp only [z05,over]
 | c::cs,n+1,xs,K=>by simp only [z05,over,zxn cs n xs]
def ymx (cs:List V):List (Nat×Nat×V)->(List V->Prop)->Prop
 | [],K=>K cs
 | (off,n,v)::r,K=>z6b v fun xs=>
  match Nat.beq xs.length n with
  | true=>(match Nat.ble (off+n) cs.length with
   | true=>z05 cs off xs fun cs'=>ymx cs' r K
   | false=>False)
  | false=>False
theorem ybs:∀(l:List (Nat×Nat×V)) (cs:List V) (K:List V->Prop),ymx cs l K->∃cs',z6r cs l=some cs'/\K cs'
 | [],cs,K,h=>⟨cs,rfl,h⟩
 | (off,n,v)::r,cs,K,h=>by
  obtain⟨xs,h1,h2⟩:=zyr v _ h
  split at h2
  ·rename_i e1
   split at h2
   ·rename_i e2
    have e1':=Nat.eq_of_beq_eq_true e1
    have e2':=Nat.le_of_ble_eq_true e2
    rw [zxn] at h2
    obtain⟨cs',h3,h4⟩:=ybs r _ K h2
    refine⟨cs',?_,h4⟩
    simp only [z6r,h1]
    rw [if_pos ⟨e1',e2'⟩,<-yab cs off xs (by omega)]
    exact h3
   ·exact h2.elim
  ·exact h2.elim
def ycr (e:Env):List (Nat×Nat×Opd)->(List (Nat×Nat×V)->Prop)->Prop
 | [],K=>K []
 | (a,b,x)::r,K=>opK e x fun v=>ycr e r fun l=>K ((a,b,v)::l)
theorem z7k (e:Env):∀(l:List (Nat×Nat×Opd)) (K:List (Nat×Nat×V)->Prop),ycr e l K=K (zud e l)
 | [],_=>rfl
 | (a,b,x)::r,K=>by simp only [ycr,zud,zcs,z7k e r]
def z9a (m:Mem) (v:V) (K:List D->Prop):Prop:=zhe false m v fun d=>
 match d with
 | .agg cs=>K cs
 | x=>K [x]
theorem z1x (m:Mem) (v:V) (K:List D->Prop) (h:z9a m v K):∃cs,zo9 m v=some cs/\K cs:=by
 obtain⟨d,h1,h2⟩:=zqr false m v _ h
 unfold zo9
 rw [h1]
 cases d<;>exact⟨_,rfl,h2⟩
def z65 (sz:Nat) (m:Mem):List V->(List D->Prop)->Prop
 | [],K=>K []
 | v::r,K=>z9a m v fun x=>match Nat.beq x.length sz with
  | true=>z65 sz m r fun xs=>K (x++xs)
  | false=>False
theorem zt4 (sz:Nat) (m:Mem):∀(l:List V) (K:List D->Prop),z65 sz m l K->∃ds,zpr sz m l=some ds/\K ds
 | [],K,h=>⟨[],rfl,h⟩
 | v::r,K,h=>by
  obtain⟨x,h1,h2⟩:=z1x m v _ h
  split at h2
  ·rename_i e
   obtain⟨xs,h3,h4⟩:=zt4 sz m r _ h2
   refine⟨x++xs,?_,h4⟩
   simp only [zpr,h1,h3,if_pos (Nat.eq_of_beq_eq_true e)]
  ·exact h2.elim
structure zcd (n:Nat) (l h:Int) (K:Nat->Nat->Prop):Prop where
 ok:0<=h/\h<=n/\0<=l/\l<=h
 go:K l.toNat h.toNat
def zu7 (n:Nat) (lo hi:Option V) (K:Nat->Nat->Prop):Prop:=
 match lo,hi with
 | none,none=>K 0 n
 | some (.d (.int _ l)),none=>zcd n l n K
 | none,some (.d (.int _ h))=>zcd n 0 h K
 | some (.d (.int _ l)),some (.d (.int _ h))=>zcd n l h K
 | _,_=>False
theorem zqo (n:Nat) (lo hi:Option V) (K:Nat->Nat->Prop) (h:zu7 n lo hi K):∃p,zcz n lo hi=some p/\K p.1 p.2:=by
 unfold zu7 at h
 split at h
 ·refine⟨(0,n),?_,h⟩
  simp [zcz]
 ·rename_i k l
  refine⟨(l.toNat,(n:Int).toNat),?_,h.go⟩
  simp only [zcz,asI]
  exact if_pos h.ok
 ·rename_i k l
  refine⟨((0:Int).toNat,l.toNat),?_,h.go⟩
  simp only [zcz,asI]
  exact if_pos h.ok
 ·rename_i k l k' l'
  refine⟨(l.toNat,l'.toNat),?_,h.go⟩
  simp only [zcz,asI]
  exact if_pos h.ok
 ·exact h.elim
def yha (n:Option Nat) (cs:List V) (off:Nat) (K:V->Prop):Prop:=
 match n with
 | none=>ydn cs off K
 | some n=>zco (off+n<=cs.length) (yqe (win cs off n) K)
theorem z7n (n:Option Nat) (cs:List V) (off:Nat) (K:V->Prop) (h:yha n cs off K):∃v,yd5 n cs off=some v/\K v:=by
 cases n with
 | none=>obtain⟨d,h1,h2⟩:=h.got;exact⟨d,h1,h2⟩
 | some n=>obtain⟨h1,h2⟩:=h;rw [ye6] at h2;exact⟨_,if_pos h1,h2⟩
def z7m (n:Option Nat) (cs:List D) (off:Nat) (K:V->Prop):Prop:=
 match n with
 | none=>zfo cs off fun d=>K (.d d)
 | some n=>z3g cs off n fun ds=>K (.d (.agg ds))
theorem zuf (n:Option Nat) (cs:List D) (off:Nat) (K:V->Prop) (h:z7m n cs off K):∃v,z06 n cs off=some v/\K v:=by
 cases n with
 | none=>obtain⟨d,h1,h2⟩:=h.got;exact⟨_,by simp only [z06,h1];rfl,h2⟩
 | some n=>obtain⟨h1,h2⟩:=h;exact⟨_,if_pos h1,h2⟩
def yj1 (n:Option Nat) (m:Mem) (a:V) (K:V->Prop):Prop:=
 match a with
 | .lptr cs off=>z7m n cs off K
 | .ptr o off top=>zlo m o fun x=>
  match x with
  | some (.cells _ cs)=>yha n cs off K
  | some (.row _ _ _ l xs)=>zco (l=top) (z7m n xs off K)
  | _=>False
 | _=>False
theorem ycf (n:Option Nat) (m:Mem) (a:V) (K:V->Prop) (h:yj1 n m a K):∃v,zzi n m a=some v/\K v:=by
 unfold yj1 at h
 split at h
 ·exact zuf _ _ _ _ h
 ·rename_i o off top
  rw [zdg] at h
  simp only [zzi]
  split at h
  ·rename_i hl;rw [hl];exact z7n _ _ _ _ h
  ·rename_i hl;rw [hl]
   obtain⟨v,h1,h2⟩:=zuf _ _ _ _ h.go
   exact⟨v,(if_pos h.need).trans h1,h2⟩
  ·exact h.elim
 ·exact h.elim
def yde (n:Nat) (m:Mem) (a x:V) (K:Mem->Prop):Prop:=
 match a with
 | .ptr o off top=>zlo m o fun y=>
  match y with
  | some (.cells t cs)=>z6b x fun xs=>zco (xs.length=n/\off+n<=cs.length) (z05 cs off xs fun cs'=>zxw m o (.cells t cs') K)
  | some (.row true t sz l xs)=>z9a m x fun ds=>zco (ds.length=n/\off+n<=xs.length/\l=top) (zxw m o (.row true t sz l (patch xs off ds)) K)
  | _=>False
 | _=>False
theorem z8l (n:Nat) (m:Mem) (a x:V) (K:Mem->Prop) (h:yde n m a x K):∃m',zup n m a x=some m'/\K m':=by
 unfold yde at h
 split at h
 ·rename_i o off top
  rw [zdg] at h
  simp only [zup]
  split at h
  ·rename_i hl;rw [hl]
   obtain⟨xs,h1,h2,h3⟩:=zyr x _ h
   rw [zxn,ze0,yab _ _ _ (by omega)] at h3
   simp only [h1]
   exact⟨_,if_pos h2,h3⟩
  ·rename_i hl;rw [hl]
   obtain⟨ds,h1,h2,h3⟩:=z1x m x _ h
   rw [ze0] at h3
   simp only [h1]
   exact⟨_,if_pos h2,h3⟩
  ·exact h.elim
 ·exact h.elim
def yh3 (sz:Nat) (m:Mem) (x:V) (lo hi mx:Option V) (K:V->Prop):Prop:=
 match x with
 | .d (.list n cs)=>zu7 n lo hi fun l h=>
  match mx with
  | none=>K (.d (.list (h-l) (win cs (l*sz) ((h-l)*sz))))
  | some _=>zco (hi.isSome/\mx.bind asI=hi.bind asI) (K (.d (.list (h-l) (win cs (l*sz) ((h-l)*sz)))))
 | .ref o off len top=>zlo m o fun y=>
  match y with
  | some (.row wr _ sz' n xs)=>zco (n=top/\off+len<=n/\sz'=sz) (zu7 len lo hi fun l h=>
   match mx with
   | none=>(match wr with
    | true=>K (.ref o (off+l) (h-l) top)
    | false=>K (.d (.list (h-l) (win xs ((off+l)*sz) ((h-l)*sz)))))
   | some _=>False)
  | _=>False
 | .d .nil=>zu7 0 lo hi fun _ _=>
  match mx with
  | none=>K (.d .nil)
  | some _=>False
 | _=>False
theorem yh4 (sz:Nat) (m:Mem) (x:V) (lo hi mx:Option V) (K:V->Prop) (h:yh3 sz m x lo hi mx K):∃v,zrx sz m x lo hi mx=some v/\K v:=by
 unfold yh3 at h
 split at h
 ·obtain⟨p,h1,h2⟩:=zqo _ _ _ _ h
  obtain⟨l,hh⟩:=p
  simp only [zrx,h1]
  cases mx with
  | none=>exact⟨_,if_pos (Or.inl rfl),h2⟩
  | some y=>exact⟨_,if_pos (Or.inr h2.need),h2.go⟩
 ·rename_i o off len top
  rw [zdg] at h
  simp only [zrx]
  split at h
  ·rename_i wr t1 sz1 n1 xs1 hl;rw [hl]
   obtain⟨h0,h⟩:=h
   obtain⟨p,h1,h2⟩:=zqo _ _ _ _ h
   obtain⟨l,hh⟩:=p
   simp only [if_pos h0,h1]
   cases mx with
   | none=>
    cases wr with
    | true=>exact⟨_,by simp,h2⟩
    | false=>exact⟨_,by simp,h2⟩
   | some y=>exact h2.elim
  ·exact h.elim
 ·obtain⟨p,h1,h2⟩:=zqo _ _ _ _ h
  simp only [zrx,h1]
  cases mx with
  | none=>exact⟨_,if_pos rfl,h2⟩
  | some y=>exact h2.elim
 ·exact h.elim
def z4j (sz:Nat) (m:Mem) (x i:V) (K:V->Prop):Prop:=
 match i with
 | .d (.int _ i)=>
  (match x with
  | .d (.list n cs)=>zco (0<=i/\i<n) (K (.lptr cs (i.toNat*sz)))
  | .ref o off len top=>zlo m o fun y=>
   match y with
   | some (.row _ _ sz' n _)=>zco (0<=i/\i<len/\n=top/\off+len<=n/\sz'=sz) (K (.ptr o ((off+i.toNat)*sz) top))
   | _=>False
  | _=>False)
 | _=>False
theorem z9o (sz:Nat) (m:Mem) (x i:V) (K:V->Prop) (h:z4j sz m x i K):∃v,zln sz m x i=some v/\K v:=by
 unfold z4j at h
 split at h
 ·split at h
  ·exact⟨_,if_pos h.need,h.go⟩
  ·rw [zdg] at h
   split at h
   ·rename_i hl;simp only [zln,asI,hl];exact⟨_,if_pos h.need,h.go⟩
   ·exact h.elim
  ·exact h.elim
 ·exact h.elim
def yj3 (off:Nat) (m:Mem) (v:V) (K:V->Prop):Prop:=
 match v with
 | .lptr cs b=>K (.lptr cs (b+off))
 | .ptr o b top=>zlo m o fun x=>
  match x with
  | some (.cells ..)=>K (.ptr o (b+off) top)
  | some (.row _ _ _ n _)=>zco (n=top) (K (.ptr o (b+off) top))
  | _=>False
 | _=>False
theorem yck (off:Nat) (m:Mem) (v:V) (K:V->Prop) (h:yj3 off m v K):∃r,zgg off m v=some r/\K r:=by
 unfold yj3 at h
 split at h
 ·exact⟨_,rfl,h⟩
 ·rw [zdg] at h
  split at h
  ·rename_i hl;exact⟨_,by simp only [zgg,z5q,hl];rfl,h⟩
  ·rename_i hl;exact⟨_,by simp only [zgg,z5q,hl,h.need];simp,h.go⟩
  ·exact h.elim
 ·exact h.elim
def ynp (n:Option Nat) (x:V) (off:Nat) (K:V->Prop):Prop:=
 match x with
 | .d (.agg cs)=>z7m n cs off K
 | .agg cs=>yha n cs off K
 | _=>False
theorem yka (n:Option Nat) (x:V) (off:Nat) (K:V->Prop) (h:ynp n x off K):∃r,yg8 n x off=some r/\K r:=by
 unfold ynp at h
 split at h
 ·exact zuf _ _ _ _ h
 ·exact z7n _ _ _ _ h
 ·exact h.elim
def yq0 (m:Mem) (k:Kd) (v:V) (K:Nat->Prop):Prop:=
 match k with
 | .str=>(match v with
  | .d (.str s)=>K s.length
  | _=>False)
 | .slc=>(match v with
  | .d (.list n _)=>K n
  | .d .nil=>K 0
  | .ref o _ len top=>zlo m o fun x=>
   match x with
   | some (.row _ _ _ n _)=>zco (n=top) (K len)
   | _=>False
  | _=>False)
 | .map=>(match v with
  | .mp o=>zlo m o fun x=>
   match x with
   | some (.map es)=>K es.length
   | _=>False
  | _=>False)
 | .cap=>(match v with
  | .d .nil=>K 0
  | _=>False)
theorem ym8 (m:Mem) (k:Kd) (v:V) (K:Nat->Prop) (h:yq0 m k v K):∃n,ye0 m k v=some n/\K n:=by
 unfold yq0 at h
 split at h
 ·split at h
  ·exact⟨_,rfl,h⟩
  ·exact h.elim
 ·split at h
  ·exact⟨_,rfl,h⟩
  ·exact⟨_,rfl,h⟩
  ·rw [zdg] at h
   split at h
   ·rename_i hl;exact⟨_,by simp only [ye0,hl];exact if_pos h.need,h.go⟩
   ·exact h.elim
  ·exact h.elim
 ·split at h
  ·rw [zdg] at h
   split at h
   ·rename_i hl;exact⟨_,by simp only [ye0,hl],h⟩
   ·exact h.elim
  ·exact h.elim
 ·split at h
  ·exact⟨_,rfl,h⟩
  ·exact h.elim
def z6m (m:Mem) (v:V) (K:Nat->List D->Prop):Prop:=
 match v with
 | .d (.list n cs)=>K n cs
 | .d .nil=>K 0 []
 | .ref o off len top=>zlo m o fun x=>
  match x with
  | some (.row _ _ sz n xs)=>zco (n=top/\off+len<=n) (K len (if off=0/\len=n then xs else win xs (off*sz) (len*sz)))
  | _=>False
 | _=>False
theorem zy0 (m:Mem) (v:V) (K:Nat->List D->Prop) (h:z6m m v K):∃p,zyz m v=some p/\K p.1 p.2:=by
 unfold z6m at h
 split at h
 ·exact⟨_,rfl,h⟩
 ·exact⟨_,rfl,h⟩
 ·rw [zdg] at h
  split at h
  ·rename_i hl;exact⟨_,by simp only [zyz,hl];exact if_pos h.need,h.go⟩
  ·exact h.elim
 ·exact h.elim
def zta (cx:Cx) (slot:Nat) (r:zdq) (m:Mem) (k:Nat) (ds:List D) (s:V) (K:V->Mem->Prop):Prop:=
 match s with
 | .ref o off len top=>zlo m o fun x=>
  match x with
  | some (.row wr t sz n xs)=>
   zco (off=0/\len=n/\n=top/\t=r.t/\sz=r.sz/\ds.length=k*sz/\(n+k)*r.by_<=140737488355328/\n+k<=140737488355328)
    (zxw m o (.row wr t sz (n+k) (xs++ds)) fun m'=>K (.ref o 0 (n+k) (n+k)) m')
  | _=>False
 | .d .nil=>zco (k≠0/\ds.length=k*r.sz/\k*r.by_<=140737488355328/\k<=140737488355328) (ygn cx slot m fun i=>zxw m i (.row r.wr r.t r.sz k ds) fun m'=>K (.ref i 0 k k) m')
 | _=>False
theorem zrz (cx:Cx) (slot:Nat) (r:zdq) (m:Mem) (k:Nat) (ds:List D) (s:V) (K:V->Mem->Prop) (h:zta cx slot r m k ds s K):
  ∃p,zoh cx slot r m (some (k,ds)) s=some p/\K p.1 p.2:=by
 unfold zta at h
 split at h
 ·rw [zdg] at h
  split at h
  ·rename_i hl
   obtain⟨⟨h1,h2,h3,h4,h5,h6,h7,h8⟩,h9⟩:=h
   rw [ze0] at h9
   refine⟨(_,_),?_,h9⟩
   simp only [zoh,hl]
   exact if_pos ⟨h1,h2,h3,h4,h5,h6,by simp [z5a,h7,h8]⟩
  ·exact h.elim
 ·obtain⟨⟨h1,h2,h3,h4⟩,h9⟩:=h
  rw [znp,ze0] at h9
  refine⟨(_,_),?_,h9⟩
  simp only [zoh]
  exact if_pos ⟨h1,h2,by simp [z5a,h3,h4]⟩
 ·exact h.elim
def eqB:D->D->(Prop->Prop)->Prop
 | .int k a,.int l b,K=>(match decide (k=l) with
  | true=>K (a=b)
  | false=>False)
 | .bool a,.bool b,K=>K (a=b)
 | .str a,.str b,K=>K (a=b)
 | _,_,_=>False
def ymt:List D->List D->(Prop->Prop)->Prop
 | [],[],K=>K True
 | [x],[y],K=>eqB x y K
 | x::x2::r,y::y2::s,K=>eqB x y fun p=>ymt (x2::r) (y2::s) fun q=>K (p/\q)
 | _,_,_=>False
theorem ylo (x y:D) (K:Prop->Prop) (h:eqB x y K):∃b p,eqD x y=some b/\(b=true↔p)/\K p:=by
 unfold eqB at h
 split at h
 ·split at h
  ·rename_i a _ b _ e
   exact⟨decide (a=b),a=b,by simp only [eqD];exact if_pos (of_decide_eq_true e),by simp,h⟩
  ·exact h.elim
 ·rename_i a b
  exact⟨a==b,a=b,rfl,by simp,h⟩
 ·rename_i a b
  exact⟨a==b,a=b,rfl,by simp,h⟩
 ·exact h.elim
theorem yfo:∀(xs ys:List D) (K:Prop->Prop),ymt xs ys K->∃b p,eqL xs ys=some b/\(b=true↔p)/\K p
 | [],[],_,h=>⟨true,True,rfl,by simp,h⟩
 | [x],[y],K,h=>by
  obtain⟨a,p,h1,h2,h3⟩:=ylo x y _ h
  exact⟨a&&true,p,by simp only [eqL,h1],by simpa using h2,h3⟩
 | x::x2::r,y::y2::s,K,h=>by
  obtain⟨a,p,h1,h2,h3⟩:=ylo x y _ h
  obtain⟨b,q,h4,h5,h6⟩:=yfo (x2::r) (y2::s) _ h3
  refine⟨a&&b,p/\q,?_,by simp [h2,h5],h6⟩
  rw [eqL,h1,h4]
 | [],_::_,_,h=>(by simp only [ymt] at h)
 | _::_,[],_,h=>(by simp only [ymt] at h)
 | [_],_::_::_,_,h=>(by simp only [ymt] at h)
 | _::_::_,[_],_,h=>(by simp only [ymt] at h)
def yqx (ks:Option (List KK)) (x y:V) (K:Bool->Prop):Prop:=
 match ks with
 | none=>
  (match x,y with
  | .d (.bool a),.d (.bool b)=>K (a==b)
  | _,_=>False)
 | some ks=>
  (match x,y with
  | .d (.agg a),.d (.agg b)=>
   (match zcx ks a&&zcx ks b with
   | true=>ymt a b fun p=>Cmp p (K true) (K false)
   | false=>False)
  | _,_=>False)
theorem ymv (ks:Option (List KK)) (x y:V) (K:Bool->Prop) (h:yqx ks x y K):∃b,eqV ks x y=some b/\K b:=by
 unfold yqx at h
 split at h
 ·split at h
  ·exact⟨_,rfl,h⟩
  ·exact h.elim
 ·split at h
  ·split at h
   ·rename_i hk
    obtain⟨b,p,h1,h2,h3⟩:=yfo _ _ _ h
    refine⟨b,by simp only [eqV];rw [if_pos hk];exact h1,?_⟩
    cases b with
    | true=>exact h3.yes (h2.1 rfl)
    | false=>exact h3.no fun hp=>Bool.noConfusion (h2.2 hp)
   ·exact h.elim
  ·exact h.elim
def ymq (p:Prop) (K:D->Prop):Prop:=Cmp p (K (.bool true)) (K (.bool false))
theorem yff {p:Prop} [Decidable p] {K:D->Prop} (h:ymq p K):K (.bool (decide p)):=by
 by_cases hp:p
 ·have:=h.yes hp;simpa [hp] using this
 ·have:=h.no hp;simpa [hp] using this
def yne (p:Prop) (K:D->Prop):Prop:=Cmp p (K (.bool false)) (K (.bool true))
theorem yco {p:Prop} [Decidable p] {K:D->Prop} (h:yne p K):K (.bool (!decide p)):=by
 by_cases hp:p
 ·have:=h.yes hp;simpa [hp] using this
 ·have:=h.no hp;simpa [hp] using this
def z87 (op:BinOp) (k:IntKind) (a b:Int) (K:D->Prop):Prop:=
 match op with
 | .add=>Wr k (a+b) fun n=>K (.int k n)
 | .sub=>Wr k (a-b) fun n=>K (.int k n)
 | .mul=>Wr k (a*b) fun n=>K (.int k n)
 | .quo=>Quo k a b fun n=>K (.int k n)
 | .rem=>Rem a b fun n=>K (.int k n)
 | .and=>K (.int k (k.wrap ((BitVec.ofInt k.bits a&&&BitVec.ofInt k.bits b).toNat)))
 | .or=>K (.int k (k.wrap ((BitVec.ofInt k.bits a|||BitVec.ofInt k.bits b).toNat)))
 | .xor=>K (.int k (k.wrap ((BitVec.ofInt k.bits a^^^BitVec.ofInt k.bits b).toNat)))
 | .andNot=>K (.int k (k.wrap ((BitVec.ofInt k.bits a&&&~~~ BitVec.ofInt k.bits b).toNat)))
 | .eql=>ymq (a=b) K
 | .neq=>yne (a=b) K
 | .lss=>ymq (a<b) K
 | .leq=>ymq (a<=b) K
 | .gtr=>ymq (b<a) K
 | .geq=>ymq (b<=a) K
 | _=>False
theorem ydr (op:BinOp) (k:IntKind) (a b:Int) (K:D->Prop) (h:z87 op k a b K):∃d,zx8 op k a b=some d/\K d:=by
 cases op<;>simp only [z87] at h<;>simp only [zx8]
 all_goals first
  | exact⟨_,rfl,h.go⟩
  | exact⟨_,if_neg h.ne,h.go⟩
  | exact⟨_,rfl,h⟩
  | exact⟨_,rfl,yff h⟩
  | exact⟨_,rfl,yco h⟩
def z88 (op:BinOp) (a b:List UInt8) (K:D->Prop):Prop:=
 match op with
 | .add=>zco (a.length+b.length<=zlc) (K (.str (a++b)))
 | .eql=>ymq (a=b) K
 | .neq=>yne (a=b) K
 | .lss=>K (.bool (zbt a b))
 | .leq=>K (.bool (zbt a b||a==b))
 | .gtr=>K (.bool (!(zbt a b||a==b)))
 | .geq=>K (.bool (!zbt a b))
 | _=>False
theorem yds (op:BinOp) (a b:List UInt8) (K:D->Prop) (h:z88 op a b K):∃d,z1u op a b=some d/\K d:=by
 have hb:(a==b)=decide (a=b):=by by_cases e:a=b<;>simp [e]
 cases op<;>simp only [z88] at h<;>simp only [z1u]
 all_goals first
  | exact⟨_,if_pos h.need,h.go⟩
  | exact⟨_,rfl,by rw [hb];exact yff h⟩
  | exact⟨_,rfl,by rw [hb];exact yco h⟩
  | exact⟨_,rfl,h⟩
def yqt (op:BinOp) (x y:V) (K:D->Prop):Prop:=
 match x,y with
 | .d (.int k a),.d (.int l b)=>
  (match op with
  | .shl=>zco (0<=b) (Wr k (a*2^(min b.toNat k.bits)) fun n=>K (.int k n))
  | .shr=>zco (0<=b) (K (.int k (a.fdiv (2^(min b.toNat k.bits)))))
  | _=>(match decide (k=l) with
   | true=>z87 op k a b K
   | false=>False))
 | .d (.str a),.d (.str b)=>z88 op a b K
 | _,_=>False
theorem ymk (op:BinOp) (x y:V) (K:D->Prop) (h:yqt op x y K):∃d,yoj op x y=some d/\K d:=by
 unfold yqt at h
 split at h
 ·simp only [yoj]
  split at h
  ·exact⟨_,if_pos h.need,h.go.go⟩
  ·exact⟨_,if_pos h.need,h.go⟩
  ·rename_i n1 n2
   split at h
   ·rename_i e
    obtain⟨d,h1,h2⟩:=ydr _ _ _ _ _ h
    refine⟨d,?_,h2⟩
    cases op<;>first |exact(if_pos (of_decide_eq_true e)).trans h1|exact absurd rfl n1|exact absurd rfl n2
   ·exact h.elim
 ·exact yds _ _ _ _ h
 ·exact h.elim
def zt5 (mx:Bool) (k:IntKind):Int->List V->(D->Prop)->Prop
 | a,[],K=>K (.int k a)
 | a,.d (.int _ b)::r,K=>
  (match mx with
  | true=>zt5 mx k (if b>a then b else a) r K
  | false=>zt5 mx k (if b<a then b else a) r K)
 | _,_::_,_=>False
def z9y (mx:Bool) (l:List V) (K:D->Prop):Prop:=
 match l with
 | .d (.int k a)::r=>zt5 mx k a r K
 | _=>False
theorem zsw (mx:Bool) (k:IntKind):∀(l:List V) (a:Int) (K:D->Prop),zt5 mx k a l K->∃d,zov.go mx k a l=some d/\K d
 | [],a,K,h=>⟨.int k a,rfl,h⟩
 | v::r,a,K,h=>by
  unfold zt5 at h
  split at h
  ·rename_i e;cases e
  ·rename_i _ _ _ a' b r' K' e
   obtain⟨rfl,rfl⟩:=(List.cons.injEq ..).mp e
   simp only [zov.go]
   cases mx with
   | true=>exact zsw true k r _ _ h
   | false=>exact zsw false k r _ _ h
  ·exact h.elim
theorem yd2 (mx:Bool) (l:List V) (K:D->Prop) (h:z9y mx l K):∃d,zov mx l=some d/\K d:=by
 unfold z9y at h
 split at h
 ·exact zsw mx _ _ _ K h
 ·exact h.elim
end Go.Evl
namespace Go.Evl
def yna (nx:Nat):List Id->Bool
 | []=>true
 | i::r=>match Nat.blt i.lv nx with
  | true=>yna nx r
  | false=>false
theorem zzj (nx:Nat):∀(l:List Id),yna nx l=zh2 nx l
 | []=>rfl
 | i::r=>by
  simp only [yna]
  cases h:Nat.blt i.lv nx with
  | true=>
   have:i.lv<nx:=Nat.le_of_ble_eq_true h
   simp only [zzj nx r]
   simp [zh2,this]
  | false=>
   have:¬i.lv<nx:=fun hh=>by
    have:=Nat.ble_eq_true_of_le (show i.lv+1<=nx from hh)
    simp only [Nat.blt] at h
    rw [this] at h;cases h
   simp [zh2,this]
def z9u:Mem->(List Id->Prop)->Prop
 | [],K=>K []
 | (i,_)::r,K=>z9u r fun l=>K (i::l)
theorem zt2:∀(m:Mem) (K:List Id->Prop),z9u m K=K (zm2 m)
 | [],_=>rfl
 | (i,o)::r,K=>by simp only [z9u,zt2 r];rfl
def z1t (nx:Nat):Mem->(Mem->Prop)->Prop
 | [],K=>K []
 | (i,o)::r,K=>match Nat.blt i.lv nx with
  | true=>z1t nx r fun r'=>K ((i,o)::r')
  | false=>z1t nx r K
theorem ztk (nx:Nat):∀(m:Mem) (K:Mem->Prop),z1t nx m K=K (zef nx m)
 | [],_=>rfl
 | (i,o)::r,K=>by
  simp only [z1t]
  cases h:Nat.blt i.lv nx with
  | true=>
   have:i.lv<nx:=Nat.le_of_ble_eq_true h
   simp only [ztk nx r]
   simp [zef,this]
  | false=>
   have:¬i.lv<nx:=fun hh=>by
    have:=Nat.ble_eq_true_of_le (show i.lv+1<=nx from hh)
    simp only [Nat.blt] at h
    rw [this] at h;cases h
   simp only [ztk nx r]
   simp [zef,this]
def zu4 (cx:Cx) (slot:Nat) (imm:Bool) (v:V) (m':Mem) (K:V->Mem->Prop):Prop:=z1t cx.nx m' fun old=>
 match yna cx.nx (idsAll old) with
 | true=>(match imm with
  | true=>(match (ids v).all fun i=>Nat.ble cx.nx i.lv with
   | true=>yk7 m' v fun r=>K r old
   | false=>False)
  | false=>zux (settle cx slot cx.nx old m' v) fun p=>K p.1 p.2)
 | false=>False
def callW (E:Oracle) (cx:Cx) (slot:Nat) (shared imm:Bool) (f:V) (args:List V) (m:Mem) (K:V->Mem->Prop):Prop:=
 match shared with
 | false=>(match f with
  | .fn f first caps=>zty false m (first ++args++caps) fun ds=>yoi ds fun vs=>
   (match imm with
   | true=>zak E f vs fun v=>K v m
   | false=>zcf E f vs cx slot m K)
  | _=>False)
 | true=>z9u m fun ks=>(match yna cx.nx ks with
  | true=>(match f with
   | .fn f first caps=>In E cx.nx f (first ++args++caps) m fun v m'=>zu4 cx slot imm v m' K
   | .yld o=>Rnd E cx.nx o args m fun v m'=>zu4 cx slot imm v m' K
   | _=>False)
  | false=>False)
section
variable {E : Oracle}
theorem z3p {cx:Cx} {slot:Nat} {imm:Bool} {v:V} {m':Mem} {K:V->Mem->Prop} (h:zu4 cx slot imm v m' K):
  ∃p,(if zh2 cx.nx (idsAll (zef cx.nx m')) then zmu cx slot cx.nx imm (zef cx.nx m') m' v else none)=some p/\K p.1 p.2:=by
 simp only [zu4,ztk,zzj] at h
 split at h
 ·rename_i hl
  rw [if_pos hl]
  split at h
  ·split at h
   ·rename_i ha
    obtain⟨r,h1,h2⟩:=ydj _ _ _ h
    refine⟨(r,zef cx.nx m'),?_,h2⟩
    have ha':((ids v).all fun i=>decide (cx.nx<=i.lv))=true:=by
     rw [List.all_eq_true] at ha ⊢
     intro i hi
     simpa using Nat.le_of_ble_eq_true (ha i hi)
    simp only [zmu,if_true,ha',h1]
    rfl
   ·exact h.elim
  ·obtain⟨p,h1,h2⟩:=h.got
   exact⟨p,by simp only [zmu];exact h1,h2⟩
 ·exact h.elim
theorem callW_ok {cx:Cx} {slot:Nat} {shared imm:Bool} {f:V} {args:List V} {m:Mem} {K:V->Mem->Prop} (h:callW E cx slot shared imm f args m K):
  ∃p,zjo E cx slot shared imm f args m=some p/\K p.1 p.2:=by
 unfold callW at h
 split at h
 ·split at h
  ·rename_i f first caps
   obtain⟨ds,h1,h2⟩:=zoo _ _ _ _ h
   rw [z3m] at h2
   simp only [zjo,h1]
   split at h2
   ·obtain⟨r,⟨v,m',h3,h4⟩,h5⟩:=h2.got
    refine⟨(r,m),?_,h5⟩
    have hall:((ids v).all fun i=>decide (0<=i.lv))=true:=by simp
    simp only [h3,zmu,hall,h4]
    rfl
   ·obtain⟨v,m',p,h3,h4,h5⟩:=h2.got
    refine⟨p,?_,h5⟩
    simp only [h3,zmu,h4]
    rfl
  ·exact h.elim
 ·simp only [zt2,zzj] at h
  split at h
  ·rename_i hl
   simp only [zjo,if_true,hl]
   split at h
   ·obtain⟨v,m',h1,h2⟩:=h.got
    simp only [zhm,h1]
    exact z3p h2
   ·obtain⟨v,m',h1,h2⟩:=h.got
    simp only [zhm,h1]
    exact z3p h2
   ·exact h.elim
  ·exact h.elim
structure zof (key:D) (es:List (D×V)) (K:Option V->Prop):Prop where
 got:∃r,zp9 key es=some r/\K r
structure yrj (key:D) (x:V) (es:List (D×V)) (K:List (D×V)->Prop):Prop where
 got:∃r,setE key x es=some r/\K r
structure zry (s:List UInt8) (pos:Nat) (some_:Int->Nat->Prop) (none_:Prop):Prop where
 yes:pos<s.length->some_ (Utf8.decode ⟨s.toArray⟩ pos).1 (Utf8.decode ⟨s.toArray⟩ pos).2
 no:¬pos<s.length->none_
def z9w (kk:KK) (zero:D) (ok:Bool) (m:Mem) (x key:V) (K:V->Prop):Prop:=
 match key with
 | .d key=>
  (match zjp kk key with
  | true=>(match x with
   | .mp o=>zlo m o fun ob=>
    match ob with
    | some (.map es)=>zof key es fun r=>K (ylt zero ok r)
    | _=>False
   | .d .nilm=>K (ylt zero ok none)
   | _=>False)
  | false=>False)
 | _=>False
theorem yd0 {kk:KK} {zero:D} {ok:Bool} {m:Mem} {x key:V} {K:V->Prop} (h:z9w kk zero ok m x key K):∃v,zot kk zero ok m x key=some v/\K v:=by
 unfold z9w at h
 split at h
 ·split at h
  ·rename_i hk
   simp only [zot,if_pos hk]
   split at h
   ·rw [zdg] at h
    split at h
    ·rename_i hl
     obtain⟨r,h1,h2⟩:=h.got
     exact⟨_,by simp only [hl,h1];rfl,h2⟩
    ·exact h.elim
   ·exact⟨_,rfl,h⟩
   ·exact h.elim
  ·exact h.elim
 ·exact h.elim
def yq2 (m:Mem) (x:V) (K:Nat->Bool->Prop):Prop:=
 match x with
 | .d .nilp=>K 0 true
 | .d .nilf=>K 4 true
 | .d .nili=>K 1 true
 | .d (.ifc true)=>K 1 false
 | .d .nilm=>K 3 true
 | .d (.fn _)=>K 4 false
 | .d (.list n _)=>zco (n≠0) (K 2 false)
 | .fn .. =>K 4 false
 | .lptr .. =>K 0 false
 | .ptr o _ top=>zlo m o fun ob=>
  match ob with
  | some (.cells ..)=>K 0 false
  | some (.row _ _ _ n _)=>zco (n=top) (K 0 false)
  | _=>False
 | .ref o off len top=>zlo m o fun ob=>
  match ob with
  | some (.row _ _ _ n _)=>zco (n=top/\off+len<=n/\len≠0) (K 2 false)
  | _=>False
 | _=>False
theorem ynf {m:Mem} {x:V} {K:Nat->Bool->Prop} (h:yq2 m x K):∃k b,ygo m x=some (k,b)/\K k b:=by
 unfold yq2 at h
 split at h
 ·exact⟨_,_,rfl,h⟩
 ·exact⟨_,_,rfl,h⟩
 ·exact⟨_,_,rfl,h⟩
 ·exact⟨_,_,rfl,h⟩
 ·exact⟨_,_,rfl,h⟩
 ·exact⟨_,_,rfl,h⟩
 ·rename_i n cs
  cases n with
  | zero=>exact absurd rfl h.need
  | succ n=>exact⟨_,_,rfl,h.go⟩
 ·exact⟨_,_,rfl,h⟩
 ·exact⟨_,_,rfl,h⟩
 ·rw [zdg] at h
  split at h
  ·rename_i hl;exact⟨_,_,by simp only [ygo,z5q,hl];rfl,h⟩
  ·rename_i hl;exact⟨_,_,by simp [ygo,z5q,hl,h.need],h.go⟩
  ·exact h.elim
 ·rw [zdg] at h
  split at h
  ·rename_i hl;exact⟨_,_,by simp only [ygo,hl];exact if_pos h.need,h.go⟩
  ·exact h.elim
 ·exact h.elim
def z4p (kk:KK) (m:Mem) (x key v:V) (K:V->Mem->Prop):Prop:=
 match x,key with
 | .mp o,.d key=>zlo m o fun ob=>
  (match ob with
  | some (.map es)=>(match zjp kk key&&(cellsOf v).isSome with
   | true=>yrj key v es fun es'=>zxw m o (.map es') fun m'=>K .skip m'
   | false=>False)
  | _=>False)
 | _,_=>False
theorem z2k {kk:KK} {m:Mem} {x key v:V} {K:V->Mem->Prop} (h:z4p kk m x key v K):∃m',zou kk m x key v=some m'/\K .skip m':=by
 unfold z4p at h
 split at h
 ·rw [zdg] at h
  split at h
  ·rename_i hl
   split at h
   ·rename_i hb
    obtain⟨r,h1,h2⟩:=h.got
    rw [ze0] at h2
    exact⟨_,by simp only [zou,hl,if_pos hb,h1];rfl,h2⟩
   ·exact h.elim
  ·exact h.elim
 ·exact h.elim
structure zjh (E:Oracle) (f:V) (args:List V) (m:Mem) (K:V->Prop):Prop where
 got:∃v,zts E f args m=some v/\K v
structure zog (E:Oracle) (imm:Bool) (f:V) (args:List V) (m:Mem) (K:V->Mem->Prop):Prop where
 got:∃v m',zrs E imm f args m=some (v,m')/\K v m'
def zka (E:Oracle) (cx:Cx) (slot:Nat) (e:Env) (m:Mem) (op:COp) (K:V->Mem->Prop):Prop:=
 match op with
 | .mv x=>opK e x fun v=>K v m
 | .ownNil r=>ygn cx slot m fun i=>zxw m i (.row r.wr r.t r.sz 0 []) fun m'=>K (.ref i 0 0 0) m'
 | .pick c a b=>opK e c fun c=>
  match c with
  | .d (.bool t)=>Br t (opK e a fun v=>K v m) (opK e b fun v=>K v m)
  | _=>False
 | .alloc t cs=>z9r cx slot cs m fun vs m1=>ygn cx slot m1 fun i=>zxw m1 i (.cells t vs) fun m2=>K (.ptr i 0 0) m2
 | .box t x=>opK e x fun v=>z6b v fun cs=>ygn cx slot m fun i=>zxw m i (.cells t cs) fun m2=>K (.ptr i 0 0) m2
 | .build zero parts=>z9r cx slot zero m fun vs m1=>ycr e parts fun ps=>ymx vs ps fun cs=>yqe cs fun v=>K v m1
 | .mkList sz n parts=>z8w e parts fun vs=>z65 sz m vs fun ds=>K (.d (.list n ds)) m
 | .mkListD sz n parts=>z8w e parts fun vs=>Chk (yf6 vs) (z65 sz [] vs fun ds=>K (.d (.list n ds)) m)
 | .mkRow r n parts=>z8w e parts fun vs=>z65 r.sz m vs fun ds=>ygn cx slot m fun i=>zxw m i (.row r.wr r.t r.sz n ds) fun m2=>K (.ref i 0 n n) m2
 | .load n a=>opK e a fun a=>yj1 n m a fun v=>K v m
 | .store n a x=>opK e a fun a=>opK e x fun x=>yde n m a x fun m'=>K .skip m'
 | .nilCheck x=>opK e x fun v=>
  match v with
  | .fn f a b=>K (.fn f a b) m
  | .d (.fn f)=>K (.fn f [] []) m
  | .lptr cs o=>K (.lptr cs o) m
  | .ptr o off top=>zlo m o fun ob=>
   match ob with
   | some (.cells ..)=>K (.ptr o off top) m
   | some (.row _ _ _ n _)=>zco (n=top) (K (.ptr o off top) m)
   | _=>False
  | _=>False
 | .bin op x y=>opK e x fun x=>opK e y fun y=>yqt op x y fun d=>K (.d d) m
 | .eqv ks neg x y=>opK e x fun x=>opK e y fun y=>yqx ks x y fun b=>
  match neg with
  | true=>K (.d (.bool (!b))) m
  | false=>K (.d (.bool b)) m
 | .un op x=>opK e x fun x=>
  match op,x with
  | .not,.d (.bool b)=>K (.d (.bool (!b))) m
  | .neg,.d (.int k n)=>Wr k (0-n) fun n=>K (.d (.int k n)) m
  | _,_=>False
 | .conv k x=>opK e x fun x=>
  match x with
  | .d (.int _ n)=>Wr k n fun n=>K (.d (.int k n)) m
  | _=>False
 | .mkFunc f first caps=>z8w e first fun a=>z8w e caps fun b=>K (.fn f a b) m
 | .sliceS x lo hi=>opK e x fun x=>opK? e lo fun lo=>opK? e hi fun hi=>
  match x with
  | .d (.str s)=>zu7 s.length lo hi fun l h=>K (.d (.str (win s l (h-l)))) m
  | _=>False
 | .slice sz x lo hi mx=>opK e x fun x=>opK? e lo fun lo=>opK? e hi fun hi=>opK? e mx fun mx=>yh3 sz m x lo hi mx fun v=>K v m
 | .fieldAddr off x=>opK e x fun x=>yj3 off m x fun v=>K v m
 | .field off n x=>opK e x fun x=>ynp n x off fun v=>K v m
 | .idxAddr sz x i=>opK e x fun x=>opK e i fun i=>z4j sz m x i fun v=>K v m
 | .idxAddrA len sz x i=>opK e x fun x=>opK e i fun i=>
  match i with
  | .d (.int _ i)=>zco (0<=i/\i<len) (yj3 (i.toNat*sz) m x fun v=>K v m)
  | _=>False
 | .idxS x i=>opK e x fun x=>opK e i fun i=>
  match x,i with
  | .d (.str s),.d (.int _ i)=>zco (0<=i) (zpv s i.toNat fun b=>K (.d (.int .u8 b.toNat)) m)
  | _,_=>False
 | .mkMap=>ygn cx slot m fun i=>zxw m i (.map []) fun m'=>K (.mp i) m'
 | .lookup kk zero ok x key=>opK e x fun x=>opK e key fun key=>z9w kk zero ok m x key fun v=>K v m
 | .mapSet kk x key v=>opK e x fun x=>opK e key fun key=>opK e v fun v=>z4p kk m x key v K
 | .mapSetR kk x key v rs=>opK e x fun x=>opK e key fun key=>opK e v fun v=>ydw e rs fun vs=>Chk (ybg x vs) (z4p kk m x key v K)
 | .callD f args=>opK e f fun f=>z8w e args fun vs=>
  match zpu f with
  | .fn g [] []=>Chk (yf6 vs) (callW E cx slot false true (.fn g [] []) vs m K)
  | _=>False
 | .callQ f args=>opK e f fun f=>z8w e args fun vs=>zjh E (zpu f) vs m fun v=>K v m
 | .callU imm f args=>opK e f fun f=>z8w e args fun vs=>zog E imm (zpu f) vs m K
 | .callK imm f args=>opK e f fun f=>z8w e args fun vs=>callW E cx slot true imm (zpu f) vs m fun v m'=>Chk (leM m m' m) (K v m)
 | .callN f args=>opK e f fun f=>z8w e args fun vs=>
  match zpu f with
  | .fn g [] []=>Chk (yf6 vs) (callW E cx slot false false (.fn g [] []) vs m K)
  | _=>False
 | .nilEq kd neg x=>opK e x fun x=>yq2 m x fun k b=>Chk (Nat.beq k kd) (K (.d (.bool (if neg then !b else b))) m)
 | .loadD n a=>opK e a fun a=>
  match a with
  | .lptr cs off=>z7m n cs off fun v=>K v m
  | _=>False
 | .idxAddrD sz x i=>opK e x fun x=>opK e i fun i=>
  match x with
  | .d (.list n cs)=>(match i with
   | .d (.int _ i)=>zco (0<=i/\i<n) (K (.lptr cs (i.toNat*sz)) m)
   | _=>False)
  | _=>False
 | .appendIn r s x=>opK e s fun s=>opK e x fun x=>z6m m x fun k ds=>
  match s with
  | .ref o off len top=>zlo m o fun ob=>
   match ob with
   | some (.row true t sz n xs)=>zco (n=top/\off+len+k<=n/\off+len<n/\t=r.t/\sz=r.sz/\ds.length=k*sz)
    (zxw m o (.row true t sz n (patch xs ((off+len)*sz) ds)) fun m'=>K (.ref o off (len+k) top) m')
   | _=>False
  | _=>False
 | .rangeS x=>opK e x fun x=>
  match x with
  | .d (.str s)=>ygn cx slot m fun i=>zxw m i (.iter s 0) fun m'=>K (.it i) m'
  | _=>False
 | .nextS x=>opK e x fun x=>
  match x with
  | .it o=>zlo m o fun ob=>
   match ob with
   | some (.iter s pos)=>zry s pos (fun c w=>zxw m o (.iter s (pos+w)) fun m'=>K (.tup [.d (.bool true),.d (.int .i64 pos),.d (.int .i32 c)]) m') (K (.tup [.d (.bool false)]) m)
   | _=>False
  | _=>False
 | .extract x i=>opK e x fun x=>
  match x with
  | .tup vs=>ydn vs i fun v=>K v m
  | _=>False
 | .call shared imm f args=>opK e f fun f=>z8w e args fun vs=>callW E cx slot shared imm (zpu f) vs m K
 | .storeR n a x rs=>opK e a fun a=>opK e x fun x=>ydw e rs fun vs=>Chk (ybh a vs) (yde n m a x fun m'=>K .skip m')
 | .bad=>False
 | .appendZ r zero s n=>opK e s fun s=>opK e n fun n=>
  match s,n with
  | .d .nil,.d (.int .i64 n)=>zco (0<n/\zero.length=r.sz/\n.toNat*r.by_<=140737488355328/\n.toNat<=140737488355328)
   (ygn cx slot m fun i=>zxw m i (.row r.wr r.t r.sz n.toNat (List.replicate n.toNat zero).flatten) fun m'=>K (.ref i 0 n.toNat n.toNat) m')
  | _,_=>False
 | .callB imm f args b=>∃p,znl (fun m=>zjo E cx slot true imm (zpu (f.ev e)) (evs e args) m) m (get e b)=some p/\K p.1 p.2
 | .callR imm f args rs=>opK e f fun f=>z8w e args fun vs=>ydw e rs fun ws=>callW E cx slot true imm (zpu f) vs m fun v m'=>Chk (z63 m m' ws) (K v m')
 | .len k x=>opK e x fun x=>yq0 m k x fun n=>K (.d (.int .i64 (n:Int))) m
 | .append r s x=>opK e s fun s=>opK e x fun x=>z6m m x fun k ds=>zta cx slot r m k ds s K
 | .appendF r s x=>opK e s fun s=>opK e x fun x=>z6m m x fun k ds=>zta cx slot r m k ds s fun v m'=>zhe false m' v fun d=>K (.d d) m'
 | .strB x=>opK e x fun x=>
  match x with
  | .d (.list 1 [.int .u8 n])=>K (.d (.str [UInt8.ofNat n.toNat])) m
  | _=>False
 | .appendS r s x=>opK e s fun s=>opK e x fun x=>
  match x,s with
  | .d (.str b),.ref o off len top=>zta cx slot r m b.length (ybi b) (.ref o off len top) K
  | _,_=>False
 | .minmax mx args=>z8w e args fun vs=>z9y mx vs fun d=>K (.d d) m
theorem ya6 {cx:Cx} {slot:Nat} {e:Env} {m:Mem} {op:COp} {K:V->Mem->Prop} (h:zka E cx slot e m op K):∃p,zdb E cx slot e m op=some p/\K p.1 p.2:=by
 cases op with
 | mv x=>simp only [zka,zcs] at h;exact⟨(_,_),rfl,h⟩
 | ownNil r=>simp only [zka,znp,ze0] at h;exact⟨(_,_),rfl,h⟩
 | pick c a b=>
  simp only [zka,zcs] at h
  simp only [zdb]
  split at h
  ·rename_i t ht
   rw [ht]
   refine⟨(if t then a.ev e else b.ev e,m),rfl,?_⟩
   cases t with
   | true=>exact h.yes rfl
   | false=>exact h.no rfl
  ·exact h.elim
 | alloc t cs=>simp only [zka,zxi,znp,ze0] at h;exact⟨(_,_),rfl,h⟩
 | box t x=>
  simp only [zka,zcs] at h
  obtain⟨cs,h1,h2⟩:=zyr _ _ h
  simp only [znp,ze0] at h2
  exact⟨(_,_),by simp only [zdb,h1],h2⟩
 | build zero parts=>
  simp only [zka,zxi,z7k] at h
  obtain⟨cs,h1,h2⟩:=ybs _ _ _ h
  rw [ye6] at h2
  exact⟨(_,_),by simp only [zdb,h1];rfl,h2⟩
 | mkList sz n parts=>
  simp only [zka,zjw] at h
  obtain⟨cs,h1,h2⟩:=zt4 _ _ _ _ h
  exact⟨(_,_),by simp only [zdb,h1];rfl,h2⟩
 | mkListD sz n parts=>
  simp only [zka,zjw] at h
  obtain⟨hc,h⟩:=h
  obtain⟨cs,h1,h2⟩:=zt4 _ _ _ _ h
  exact⟨(_,_),by simp only [zdb,hc,if_true,h1];rfl,h2⟩
 | mkRow r n parts=>
  simp only [zka,zjw] at h
  obtain⟨cs,h1,h2⟩:=zt4 _ _ _ _ h
  simp only [znp,ze0] at h2
  exact⟨(_,_),by simp only [zdb,h1];rfl,h2⟩
 | load n a=>
  simp only [zka,zcs] at h
  obtain⟨v,h1,h2⟩:=ycf _ _ _ _ h
  exact⟨(_,_),by simp only [zdb,h1];rfl,h2⟩
 | store n a x=>
  simp only [zka,zcs] at h
  obtain⟨v,h1,h2⟩:=z8l _ _ _ _ _ h
  exact⟨(_,_),by simp only [zdb,h1];rfl,h2⟩
 | nilCheck x=>
  simp only [zka,zcs] at h
  simp only [zdb]
  split at h
  ·rename_i hx;rw [hx];exact⟨(_,_),rfl,h⟩
  ·rename_i hx;rw [hx];exact⟨(_,_),rfl,h⟩
  ·rename_i hx;rw [hx];exact⟨(_,_),rfl,h⟩
  ·rename_i hx;rw [hx]
   rw [zdg] at h
   split at h
   ·rename_i hl;exact⟨(_,_),by simp only [z5q,hl];rfl,h⟩
   ·rename_i hl;exact⟨(_,_),by simp [z5q,hl,h.need],h.go⟩
   ·exact h.elim
  ·exact h.elim
 | bin op x y=>
  simp only [zka,zcs] at h
  obtain⟨v,h1,h2⟩:=ymk _ _ _ _ h
  exact⟨(_,_),by simp only [zdb,h1];rfl,h2⟩
 | eqv ks neg x y=>
  simp only [zka,zcs] at h
  obtain⟨v,h1,h2⟩:=ymv _ _ _ _ h
  cases neg<;>exact⟨(_,_),by simp only [zdb,h1];rfl,h2⟩
 | un op x=>
  simp only [zka,zcs] at h
  simp only [zdb]
  split at h
  ·rename_i hx;rw [hx];exact⟨(_,_),rfl,h⟩
  ·rename_i hx;rw [hx];exact⟨(_,_),rfl,h.go⟩
  ·exact h.elim
 | conv k x=>
  simp only [zka,zcs] at h
  simp only [zdb]
  split at h
  ·rename_i hx;rw [hx];exact⟨(_,_),rfl,h.go⟩
  ·exact h.elim
 | mkFunc f first caps=>simp only [zka,zjw] at h;exact⟨(_,_),rfl,h⟩
 | sliceS x lo hi=>
  simp only [zka,zcs,opK?_eq] at h
  simp only [zdb]
  split at h
  ·rename_i hx;rw [hx]
   obtain⟨p,h1,h2⟩:=zqo _ _ _ _ h
   obtain⟨l,hh⟩:=p
   simp only [h1]
   exact⟨(_,_),rfl,h2⟩
  ·exact h.elim
 | slice sz x lo hi mx=>
  simp only [zka,zcs,opK?_eq] at h
  obtain⟨v,h1,h2⟩:=yh4 _ _ _ _ _ _ _ h
  exact⟨(_,_),by simp only [zdb,h1];rfl,h2⟩
 | fieldAddr off x=>
  simp only [zka,zcs] at h
  obtain⟨v,h1,h2⟩:=yck _ _ _ _ h
  exact⟨(_,_),by simp only [zdb,h1];rfl,h2⟩
 | field off n x=>
  simp only [zka,zcs] at h
  obtain⟨v,h1,h2⟩:=yka _ _ _ _ h
  exact⟨(_,_),by simp only [zdb,h1];rfl,h2⟩
 | idxAddr sz x i=>
  simp only [zka,zcs] at h
  obtain⟨v,h1,h2⟩:=z9o _ _ _ _ _ h
  exact⟨(_,_),by simp only [zdb,h1];rfl,h2⟩
 | idxAddrA len sz x i=>
  simp only [zka,zcs] at h
  simp only [zdb]
  split at h
  ·rename_i hx;rw [hx]
   obtain⟨h0,h⟩:=h
   obtain⟨v,h1,h2⟩:=yck _ _ _ _ h
   simp only [asI,if_pos h0,h1]
   exact⟨(_,_),rfl,h2⟩
  ·exact h.elim
 | idxS x i=>
  simp only [zka,zcs] at h
  simp only [zdb]
  split at h
  ·rename_i hx hi;rw [hx,hi]
   obtain⟨h0,h⟩:=h
   obtain⟨b,h1,h2⟩:=h.got
   simp only [asI,if_pos h0,h1]
   exact⟨(_,_),rfl,h2⟩
  ·exact h.elim
 | mkMap=>simp only [zka,znp,ze0] at h;exact⟨(_,_),rfl,h⟩
 | lookup kk zero ok x key=>
  simp only [zka,zcs] at h
  obtain⟨v,h1,h2⟩:=yd0 h
  exact⟨(_,_),by simp only [zdb,h1];rfl,h2⟩
 | mapSet kk x key v=>
  simp only [zka,zcs] at h
  obtain⟨m',h1,h2⟩:=z2k h
  exact⟨(_,_),by simp only [zdb,h1];rfl,h2⟩
 | mapSetR kk x key v rs=>
  simp only [zka,zcs,zxh] at h
  obtain⟨hc,h⟩:=h
  obtain⟨m',h1,h2⟩:=z2k h
  exact⟨(_,_),by simp only [zdb,if_pos hc,h1];rfl,h2⟩
 | callK imm f args=>
  simp only [zka,zcs,zjw] at h
  obtain⟨⟨v,m'⟩,h1,hc,h2⟩:=callW_ok h
  exact⟨(v,m),by simp only [zdb,h1,if_pos hc],h2⟩
 | callQ f args=>
  simp only [zka,zcs,zjw] at h
  obtain⟨v,h1,h2⟩:=h.got
  exact⟨(v,m),by simp only [zdb,h1];rfl,h2⟩
 | callU b f args=>
  simp only [zka,zcs,zjw] at h
  obtain⟨v,m',h1,h2⟩:=h.got
  exact⟨(v,m'),by simp only [zdb,h1],h2⟩
 | callN f args=>
  simp only [zka,zcs,zjw] at h
  simp only [zdb]
  split at h
  ·rename_i hf;rw [hf]
   obtain⟨hc,h⟩:=h
   obtain⟨p,h1,h2⟩:=callW_ok h
   exact⟨p,by simp only [hc,if_true];exact h1,h2⟩
  ·exact h.elim
 | callD f args=>
  simp only [zka,zcs,zjw] at h
  simp only [zdb]
  split at h
  ·rename_i hf;rw [hf]
   obtain⟨hc,h⟩:=h
   obtain⟨p,h1,h2⟩:=callW_ok h
   exact⟨p,by simp only [hc,if_true];exact h1,h2⟩
  ·exact h.elim
 | nilEq kd neg x=>
  simp only [zka,zcs] at h
  obtain⟨k,b,h1,hc,h2⟩:=ynf h
  exact⟨(_,_),by simp only [zdb,h1];exact if_pos (Nat.eq_of_beq_eq_true hc),h2⟩
 | loadD n a=>
  simp only [zka,zcs] at h
  simp only [zdb]
  split at h
  ·rename_i ha;rw [ha]
   obtain⟨v,h1,h2⟩:=zuf _ _ _ _ h
   exact⟨(_,_),by simp only [h1];rfl,h2⟩
  ·exact h.elim
 | idxAddrD sz x i=>
  simp only [zka,zcs] at h
  simp only [zdb]
  split at h
  ·rename_i hx;rw [hx]
   split at h
   ·rename_i hi;rw [hi]
    exact⟨(_,_),if_pos h.need,h.go⟩
   ·exact h.elim
  ·exact h.elim
 | appendIn r s x=>
  simp only [zka,zcs] at h
  obtain⟨⟨k,ds⟩,h1,h2⟩:=zy0 _ _ _ h
  simp only [zdb,zs9,h1]
  split at h2
  ·rename_i hs;rw [hs]
   rw [zdg] at h2
   split at h2
   ·rename_i hl
    obtain⟨hc,h3⟩:=h2
    rw [ze0] at h3
    exact⟨(_,_),by simp only [hl];exact if_pos hc,h3⟩
   ·exact h2.elim
  ·exact h2.elim
 | rangeS x=>
  simp only [zka,zcs] at h
  simp only [zdb]
  split at h
  ·rename_i hx;rw [hx]
   simp only [znp,ze0] at h
   exact⟨(_,_),rfl,h⟩
  ·exact h.elim
 | nextS x=>
  simp only [zka,zcs] at h
  simp only [zdb]
  split at h
  ·rename_i hx;rw [hx]
   rw [zdg] at h
   split at h
   ·rename_i s pos hl
    simp only [ze0] at h
    simp only [yj4,hl]
    by_cases hp:pos<s.length
    ·exact⟨(_,_),if_pos hp,h.yes hp⟩
    ·exact⟨(_,_),if_neg hp,h.no hp⟩
   ·exact h.elim
  ·exact h.elim
 | extract x i=>
  simp only [zka,zcs] at h
  simp only [zdb]
  split at h
  ·rename_i hx;rw [hx]
   obtain⟨v,h1,h2⟩:=h.got
   exact⟨(_,_),by simp only [h1];rfl,h2⟩
  ·exact h.elim
 | call shared imm f args=>
  simp only [zka,zcs,zjw] at h
  exact callW_ok h
 | storeR n a x rs=>
  simp only [zka,zcs,zxh] at h
  obtain⟨hc,h⟩:=h
  obtain⟨v,h1,h2⟩:=z8l _ _ _ _ _ h
  exact⟨(_,_),by simp only [zdb,if_pos hc,h1];rfl,h2⟩
 | callB imm f args b=>exact h
 | bad=>exact h.elim
 | appendZ r zero s n=>
  simp only [zka,zcs] at h
  simp only [zdb]
  split at h
  ·rename_i hs hn;rw [hs,hn]
   obtain⟨⟨h1,h2,h3,h4⟩,h5⟩:=h
   rw [znp,ze0] at h5
   exact⟨(_,_),if_pos ⟨h1,h2,by simp [z5a,h3,h4]⟩,h5⟩
  ·exact h.elim
 | callR imm f args rs=>
  simp only [zka,zcs,zjw,zxh] at h
  obtain⟨⟨v,m'⟩,h1,hc,h2⟩:=callW_ok h
  exact⟨(v,m'),by simp only [zdb,h1,if_pos hc],h2⟩
 | len k x=>
  simp only [zka,zcs] at h
  obtain⟨v,h1,h2⟩:=ym8 _ _ _ _ h
  exact⟨(_,_),by simp only [zdb,h1];rfl,h2⟩
 | append r s x=>
  simp only [zka,zcs] at h
  obtain⟨⟨k,ds⟩,h1,h2⟩:=zy0 _ _ _ h
  simp only [zdb,zr0,h1]
  exact zrz _ _ _ _ _ _ _ _ h2
 | appendF r s x=>
  simp only [zka,zcs] at h
  obtain⟨⟨k,ds⟩,h1,h2⟩:=zy0 _ _ _ h
  obtain⟨⟨v,m'⟩,h3,h4⟩:=zrz _ _ _ _ _ _ _ _ h2
  obtain⟨d,h5,h6⟩:=zqr _ _ _ _ h4
  exact⟨(_,_),by simp only [zdb,zr0,h1,h3,h5];rfl,h6⟩
 | strB x=>
  simp only [zka,zcs] at h
  simp only [zdb]
  split at h
  ·rename_i hx;rw [hx];exact⟨(_,_),rfl,h⟩
  ·exact h.elim
 | appendS r s x=>
  simp only [zka,zcs] at h
  simp only [zdb]
  split at h
  ·rename_i hx hs;rw [hx,hs]
   simp only [ztb]
   exact zrz _ _ _ _ _ _ _ _ h
  ·exact h.elim
 | minmax mx args=>
  simp only [zka,zjw] at h
  obtain⟨v,h1,h2⟩:=yd2 _ _ _ h
  exact⟨(_,_),by simp only [zdb,h1];rfl,h2⟩
def yoe (E:Oracle) (cx:Cx) (e:Env) (m:Mem) (o:CO) (K:V->Mem->Prop):Prop:=
 match o with
 | ⟨dst,none,op⟩=>zka E cx (dst.getD 0) e m op K
 | ⟨dst,some (t,want),op⟩=>yjp e t fun g=>
  match g with
  | .d (.bool b)=>(match want with
   | true=>Br b (zka E cx (dst.getD 0) e m op K) (K .skip m)
   | false=>Br b (K .skip m) (zka E cx (dst.getD 0) e m op K))
  | .skip=>K .skip m
  | _=>False
theorem ylc {cx:Cx} {e:Env} {m:Mem} {o:CO} {K:V->Mem->Prop} (h:yoe E cx e m o K):∃p,ze9 E cx e m o=some p/\K p.1 p.2:=by
 obtain⟨dst,guard,op⟩:=o
 cases guard with
 | none=>exact ya6 h
 | some g=>
  obtain⟨t,want⟩:=g
  simp only [yoe,zss] at h
  simp only [ze9]
  split at h
  ·rename_i b hb
   rw [hb]
   cases want<;>cases b
   ·exact ya6 (h.no rfl)
   ·exact⟨(_,_),rfl,h.yes rfl⟩
   ·exact⟨(_,_),rfl,h.no rfl⟩
   ·exact ya6 (h.yes rfl)
  ·rename_i hb;rw [hb];exact⟨(_,_),rfl,h⟩
  ·exact h.elim
def wpOps (E:Oracle) (cx:Cx):List CO->Env->Mem->(Env->Mem->Prop)->Prop
 | [],e,m,K=>K e m
 | o::r,e,m,K=>yoe E cx e m o fun v m'=>put?K e o.dst v fun e'=>wpOps E cx r e' m' K
theorem wpOps_ok {cx:Cx}:∀(os:List CO) (e:Env) (m:Mem) (K:Env->Mem->Prop),wpOps E cx os e m K->∃p,zkk E cx os e m=some p/\K p.1 p.2
 | [],e,m,K,h=>⟨(e,m),rfl,h⟩
 | o::r,e,m,K,h=>by
  obtain⟨⟨v,m'⟩,h1,h2⟩:=ylc h
  rw [put?K_eq] at h2
  obtain⟨p,h3,h4⟩:=wpOps_ok r _ _ K h2
  exact⟨p,by simp only [zkk,h1];exact h3,h4⟩
def ysg (K1:Env->Mem->Prop) (K:Ex->Env->Mem->Prop) (x:Ex) (e:Env) (m:Mem):Prop:=
 match x with
 | .normal=>K1 e m
 | .exit i=>K (.exit i) e m
 | .ret=>K .ret e m
def ylk (id:Nat) (K:Ex->Env->Mem->Prop) (x:Ex) (e:Env) (m:Mem):Prop:=
 match x with
 | .normal=>K .normal e m
 | .exit j=>(match Nat.beq j id with
  | true=>K .normal e m
  | false=>K (.exit j) e m)
 | .ret=>K .ret e m
def ylx (cx:Cx) (i:Id) (e:Env) (K:Ex->Env->Mem->Prop) (m':Mem):Prop:=zlo m' i fun o=>
 match o with
 | some (.loop _ _ _ _ _ false _ j)=>z1t cx.nx m' fun mb=>
  (match yna cx.nx (idsAll mb) with
  | true=>zxw mb i .gone fun m2=>
   (match j with
   | none=>K .normal e m2
   | some (.exit id)=>K (.exit id) e m2
   | some .ret=>K .ret e m2)
  | false=>False)
 | _=>False
def wpC (E:Oracle) (cx:Cx):C->Env->Mem->(Ex->Env->Mem->Prop)->Prop
 | .skip,e,m,K=>K .normal e m
 | .label,e,m,K=>K .normal e m
 | .reg _ ops kill,e,m,K=>wpOps E cx ops e m fun e' m'=>zq4 kill e' fun e''=>K .normal e'' m'
 | .regC ops kill chk,e,m,K=>wpOps E cx ops e m fun e' m'=>Chk (ymr e' chk) (zq4 kill e' fun e''=>K .normal e'' m')
 | .seq a b,e,m,K=>wpC E cx a e m (ysg (fun e' m'=>wpC E cx b e' m' K) K)
 | .cond c a b,e,m,K=>opK e c fun v=>
  match v with
  | .d (.bool t)=>Br t (wpC E cx a e m K) (wpC E cx b e m K)
  | _=>False
 | .block id c,e,m,K=>wpC E cx c e m (ylk id K)
 | .loop live c,e,m,K=>yg3 e live fun e'=>z9u m fun ks=>gcK ks e' m fun m'=>zam E cx live ks c e' m' K
 | .exit id,e,m,K=>K (.exit id) e m
 | .ret,e,m,K=>K .ret e m
 | .bad,_,_,_=>False
 | .scope c,e,m,K=>wpC E cx c e m K
 | .rangeM pre it x out nxt pair live ops kill code,e,m,K=>wpOps E cx pre e m fun e1 m1=>
  ∃x' e' m',zo3 (fun e m=>(zkk E cx ops e m).bind fun q=>evC E cx code (ziq kill q.1) q.2) cx it x out nxt pair live e1 m1=some (x',e',m')/\K x' e' m'
 | .rangeFn slot f ps a b,e,m,K=>ygn cx slot m fun i=>zxw m i (.loop e ps a b cx.lv false false none) fun m1=>z9u m1 fun ks=>
  match yna cx.nx ks with
  | true=>opK e f fun fv=>
   (match fv with
   | .fn g first caps=>In E cx.nx g (first ++[.yld i]++caps) m1 fun _ m'=>ylx cx i e K m'
   | _=>False)
  | false=>False
theorem wpC_ok {cx:Cx}:∀(c:C) (e:Env) (m:Mem) (K:Ex->Env->Mem->Prop),wpC E cx c e m K->∃x e' m',evC E cx c e m=some (x,e',m')/\K x e' m'
 | .rangeM pre it x out nxt pair live ops kill code,e,m,K,h=>by
  obtain⟨p,h1,x',e',m',h2,h3⟩:=wpOps_ok pre e m _ h
  exact⟨x',e',m',by simp only [evC,h1,Option.bind_some,h2],h3⟩
 | .skip,e,m,K,h=>⟨_,_,_,rfl,h⟩
 | .label,e,m,K,h=>⟨_,_,_,rfl,h⟩
 | .exit _,e,m,K,h=>⟨_,_,_,rfl,h⟩
 | .ret,e,m,K,h=>⟨_,_,_,rfl,h⟩
 | .bad,_,_,_,h=>h.elim
 | .scope c,e,m,K,h=>by
  obtain⟨x,e',m',h1,h2⟩:=wpC_ok c e m K h
  exact⟨x,e',m',by simp only [evC];exact h1,h2⟩
 | .reg _ ops kill,e,m,K,h=>by
  obtain⟨p,h1,h2⟩:=wpOps_ok ops e m _ h
  rw [zo7] at h2
  exact⟨_,_,_,by simp only [evC,h1];rfl,h2⟩
 | .regC ops kill chk,e,m,K,h=>by
  obtain⟨p,h1,hc,h2⟩:=wpOps_ok ops e m _ h
  rw [zo7] at h2
  exact⟨_,_,_,by simp only [evC,h1,Option.bind_some];exact if_pos hc,h2⟩
 | .seq a b,e,m,K,h=>by
  obtain⟨x,e',m',h1,h2⟩:=wpC_ok a e m _ h
  cases x with
  | normal=>
   obtain⟨x2,e2,m2,h3,h4⟩:=wpC_ok b e' m' K h2
   exact⟨x2,e2,m2,by simp only [evC,h1];exact h3,h4⟩
  | _=>exact⟨_,_,_,by simp only [evC,h1],h2⟩
 | .cond c a b,e,m,K,h=>by
  simp only [wpC,zcs] at h
  simp only [evC]
  split at h
  ·rename_i t ht
   rw [ht]
   cases t with
   | true=>
    obtain⟨x2,e2,m2,h3,h4⟩:=wpC_ok a e m K (h.yes rfl)
    exact⟨x2,e2,m2,by simpa using h3,h4⟩
   | false=>
    obtain⟨x2,e2,m2,h3,h4⟩:=wpC_ok b e m K (h.no rfl)
    exact⟨x2,e2,m2,by simpa using h3,h4⟩
  ·exact h.elim
 | .block id c,e,m,K,h=>by
  obtain⟨x,e',m',h1,h2⟩:=wpC_ok c e m _ h
  cases x with
  | exit j=>
   simp only [ylk] at h2
   cases hb:Nat.beq j id with
   | true=>
    rw [hb] at h2
    exact⟨.normal,e',m',by simp only [evC,h1];exact if_pos (Nat.eq_of_beq_eq_true hb),h2⟩
   | false=>
    rw [hb] at h2
    have:j≠id:=fun hh=>by rw [hh,Nat.beq_refl] at hb;cases hb
    exact⟨.exit j,e',m',by simp only [evC,h1];exact if_neg this,h2⟩
  | _=>exact⟨_,_,_,by simp only [evC,h1],h2⟩
 | .loop live c,e,m,K,h=>by
  simp only [wpC,z41,zt2,yfz] at h
  obtain⟨x,e',m',h1,h2⟩:=h.got
  exact⟨x,e',m',by simp only [evC,h1],h2⟩
 | .rangeFn slot f ps a b,e,m,K,h=>by
  simp only [wpC,znp,ze0,zt2,zzj,zcs] at h
  simp only [evC]
  split at h
  ·rename_i hl
   rw [if_pos hl]
   split at h
   ·rename_i hf
    rw [hf]
    obtain⟨v,m',h1,h2⟩:=h.got
    simp only [h1]
    simp only [ylx,zdg,ztk,zzj,ze0] at h2
    split at h2
    ·rename_i hlk
     simp only [hlk]
     split at h2
     ·rename_i hl2
      simp only [if_pos hl2]
      split at h2<;>exact⟨_,_,_,rfl,h2⟩
     ·exact h2.elim
    ·exact h2.elim
   ·exact h.elim
  ·exact h.elim
def ypu (m:Mem) (e:Env) (r:RV) (K:V->Prop):Prop:=
 match r with
 | .tmp t=>yjp e t K
 | .cell t n=>yjp e t fun a=>yj1 n m a K
theorem yho {m:Mem} {e:Env} {r:RV} {K:V->Prop} (h:ypu m e r K):∃v,ypt m e r=some v/\K v:=by
 cases r with
 | tmp t=>simp only [ypu,zss] at h;exact⟨_,rfl,h⟩
 | cell t n=>simp only [ypu,zss] at h;exact ycf _ _ _ _ h
def ynx (m:Mem) (e:Env):List RV->(List V->Prop)->Prop
 | [],K=>K []
 | r::q,K=>ypu m e r fun v=>ynx m e q fun vs=>K (v::vs)
theorem yc6 {m:Mem} {e:Env}:∀(l:List RV) (K:List V->Prop),ynx m e l K->∃vs,z1a m e l=some vs/\K vs
 | [],K,h=>⟨[],rfl,h⟩
 | r::q,K,h=>by
  obtain⟨v,h1,h2⟩:=yho h
  obtain⟨vs,h3,h4⟩:=yc6 q _ h2
  exact⟨v::vs,by simp only [z1a,h1,h3],h4⟩
def zxq (m:Mem) (e:Env) (rs:List RV) (K:V->Prop):Prop:=
 match rs with
 | []=>K (.tup [])
 | [r]=>ypu m e r K
 | r::r2::rs=>ynx m e (r::r2::rs) fun vs=>K (.tup vs)
theorem zz4 {m:Mem} {e:Env} {rs:List RV} {K:V->Prop} (h:zxq m e rs K):∃v,results m e rs=some v/\K v:=by
 unfold zxq at h
 split at h
 ·exact⟨_,rfl,h⟩
 ·exact yho h
 ·obtain⟨vs,h1,h2⟩:=yc6 _ _ h
  exact⟨_,by simp only [results,h1];rfl,h2⟩
def yqw (rs:List RV) (K:V->Mem->Prop) (x:Ex) (e:Env) (m:Mem):Prop:=
 match x with
 | .normal=>zxq m e rs fun v=>K v m
 | .ret=>zxq m e rs fun v=>K v m
 | .exit _=>False
def yqj:Nat->List V->(Env->Prop)->Prop
 | _,[],K=>K []
 | i,v::r,K=>yqj (i+1) r fun e=>K ((i,v)::e)
theorem yg7:∀(i:Nat) (l:List V) (K:Env->Prop),yqj i l K=K (params i l)
 | _,[],_=>rfl
 | i,v::r,K=>by simp only [yqj,params,yg7 (i+1) r]
variable {Γ : Nat -> Option CF} {X : Extern}
def yi8 (E:Oracle) (lv:Nat) (cf:CF) (args:List V) (m:Mem) (K:V->Mem->Prop):Prop:=yqj 0 args fun e=>wpC E ⟨lv,lv+1⟩ cf.body e m (yqw cf.results K)
theorem In.enter (hE:Lim Γ X E) {lv f:Nat} {args:List V} {m:Mem} {K:V->Mem->Prop} {cf:CF} (hX:X f=none) (hc:Γ f=some cf) (h:yi8 E lv cf args m K):In E lv f args m K:=by
 simp only [yi8,yg7] at h
 obtain⟨x,e',m',h1,h2⟩:=wpC_ok _ _ _ _ h
 refine⟨?_⟩
 rw [hE.fix]
 simp only [step,hX,hc,h1]
 cases x with
 | normal=>
  simp only [yqw] at h2
  obtain⟨v,h3,h4⟩:=zz4 h2
  exact⟨v,m',by simp only [h3];rfl,h4⟩
 | ret=>
  simp only [yqw] at h2
  obtain⟨v,h3,h4⟩:=zz4 h2
  exact⟨v,m',by simp only [h3];rfl,h4⟩
 | exit i=>exact h2.elim
theorem Fc.enter (hE:Lim Γ X E) {f:Nat} {args:List V} {r:V} {cf:CF} (hX:X f=none) (hc:Γ f=some cf) (h:yi8 E 0 cf args [] fun v m'=>yk7 m' v fun d=>Ret d r):Fc E f args r:=by
 obtain⟨v,m',h1,h2⟩:=(In.enter hE hX hc h).got
 obtain⟨d,h3,h4⟩:=ydj _ _ _ h2
 exact⟨v,m',h1,by rw [h3,h4.eq]⟩
theorem Fc.extern (hE:Lim Γ X E) {f:Nat} {args:List V} {r v:V} {m':Mem} {x:List V->Mem->Option (V×Mem)} (hX:X f=some x) (h:x args []=some (v,m')) (ht:ya1 m' v=some r):Fc E f args r:=
 ⟨v,m',by rw [hE.fix];simp only [step,hX,h];rfl,ht⟩
theorem In.extern (hE:Lim Γ X E) {lv f:Nat} {args:List V} {m:Mem} {K:V->Mem->Prop} {v:V} {m':Mem} {x:List V->Mem->Option (V×Mem)} (hX:X f=some x) (h:x args m=some (v,m')) (hk:K v m'):In E lv f args m K:=
 ⟨v,m',by rw [hE.fix];simp only [step,hX,h];rfl,hk⟩
theorem zak.of {f:Nat} {args:List V} {r:V} {K:V->Prop} (h:Fc E f args r) (hk:K r):zak E f args K:=⟨r,h,hk⟩
def z5u (E:Oracle) (cx:Cx) (live:List Nat) (keep:List Id) (body:C) (K:Ex->Env->Mem->Prop) (x:Ex) (e:Env) (m:Mem):Prop:=
 match x with
 | .normal=>yg3 e live fun e2=>gcK keep e2 m fun m2=>zam E cx live keep body e2 m2 K
 | .exit i=>K (.exit i) e m
 | .ret=>K .ret e m
theorem zam.step (hE:Lim Γ X E) {cx:Cx} {live:List Nat} {keep:List Id} {body:C} {e:Env} {m:Mem} {K:Ex->Env->Mem->Prop} (h:wpC E cx body e m (z5u E cx live keep body K)):zam E cx live keep body e m K:=by
 obtain⟨x,e',m',h1,h2⟩:=wpC_ok _ _ _ _ h
 refine⟨?_⟩
 rw [hE.fix]
 simp only [Go.Evl.step,h1]
 cases x with
 | normal=>
  simp only [z5u,z41,yfz] at h2
  exact h2.got
 | exit i=>exact⟨_,_,_,rfl,h2⟩
 | ret=>exact⟨_,_,_,rfl,h2⟩
theorem zam.mono {cx:Cx} {live:List Nat} {keep:List Id} {body:C} {e:Env} {m:Mem} {K K':Ex->Env->Mem->Prop} (h:zam E cx live keep body e m K) (hk:∀x e m,K x e m->K' x e m):zam E cx live keep body e m K':=by
 obtain⟨x,e',m',h1,h2⟩:=h.got
 exact⟨x,e',m',h1,hk _ _ _ h2⟩
def yqk:List Nat->List V->Env->(Env->Prop)->Prop
 | t::r,v::s,e,K=>ypm e t v fun e'=>yqk r s e' K
 | [],_,e,K=>K e
 | _::_,[],e,K=>K e
theorem yiu:∀(ps:List Nat) (vs:List V) (e:Env) (K:Env->Prop),yqk ps vs e K=K (yof ps vs e)
 | [],[],e,K=>rfl
 | [],_::_,e,K=>rfl
 | _::_,[],e,K=>rfl
 | t::r,v::s,e,K=>by simp only [yqk,yof,yaf,yiu r s]
def yc8 (o:Id) (ks:List Id) (K:V->Mem->Prop) (x:Ex) (_:Env) (m2:Mem):Prop:=zlo m2 o fun ob=>
 match ob with
 | some (.loop e' ps' a' b' lv' true false _)=>
  (match x with
  | .normal=>zxw m2 o (.loop e' ps' a' b' lv' false false none) fun m3=>gcK ks [] m3 fun m4=>K (.d (.bool true)) m4
  | .exit id=>zxw m2 o (.loop e' ps' a' b' lv' false true (some (.exit id))) fun m3=>K (.d (.bool false)) m3
  | .ret=>zxw m2 o (.loop e' ps' a' b' lv' false true (some .ret)) fun m3=>K (.d (.bool false)) m3)
 | _=>False
def yc9 (E:Oracle) (nx:Nat) (o:Id) (lv:Nat) (b:C) (ks:List Id) (K:V->Mem->Prop) (x:Ex) (e1:Env) (m1:Mem):Prop:=
 match x with
 | .normal=>zlo m1 o fun ob=>
  (match ob with
  | some (.loop e' ps' a' b' lv' false false j')=>zxw m1 o (.loop e' ps' a' b' lv' true false j') fun m2=>wpC E ⟨lv,nx⟩ b e1 m2 (yc8 o ks K)
  | _=>False)
 | _=>False
def yl0 (E:Oracle) (nx:Nat) (o:Id) (args:List V) (m:Mem) (K:V->Mem->Prop):Prop:=zlo m o fun ob=>
 match ob with
 | some (.loop e ps a b lv false false _)=>
  (match Nat.beq ps.length args.length with
  | true=>yqk ps args e fun e0=>z9u m fun ks=>wpC E ⟨lv,nx⟩ a e0 m (yc9 E nx o lv b ks K)
  | false=>False)
 | _=>False
theorem Rnd.enter (hE:Lim Γ X E) {nx:Nat} {o:Id} {args:List V} {m:Mem} {K:V->Mem->Prop} (h:yl0 E nx o args m K):Rnd E nx o args m K:=by
 refine⟨?_⟩
 rw [hE.fix]
 simp only [yl0,zdg] at h
 simp only [Go.Evl.step]
 split at h
 ·rename_i hl
  simp only [hl]
  split at h
  ·rename_i hlen
   rw [if_pos (Nat.eq_of_beq_eq_true hlen)]
   simp only [yiu,zt2] at h
   obtain⟨x,e1,m1,h1,h2⟩:=wpC_ok _ _ _ _ h
   simp only [h1]
   cases x with
   | normal=>
    simp only [yc9,zdg] at h2
    split at h2
    ·rename_i hl1
     simp only [hl1]
     rw [ze0] at h2
     obtain⟨x,e2,m2,h3,h4⟩:=wpC_ok _ _ _ _ h2
     simp only [h3]
     simp only [yc8,zdg] at h4
     split at h4
     ·rename_i hl2
      simp only [hl2]
      cases x with
      | normal=>
       simp only [ze0,yfz] at h4
       exact⟨_,_,rfl,h4⟩
      | exit i=>
       simp only [ze0] at h4
       exact⟨_,_,rfl,h4⟩
      | ret=>
       simp only [ze0] at h4
       exact⟨_,_,rfl,h4⟩
     ·exact h4.elim
    ·exact h2.elim
   | exit i=>exact h2.elim
   | ret=>exact h2.elim
  ·exact h.elim
 ·exact h.elim
end
end Go.Evl
