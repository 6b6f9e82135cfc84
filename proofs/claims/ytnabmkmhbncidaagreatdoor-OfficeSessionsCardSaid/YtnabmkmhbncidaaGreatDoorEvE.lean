
/-
 The evaluator's limit, and what is to be shown for code to end well.
-/
import Derived.Test.YtnabmkmhbncidaaGreatDoorEvSyn
namespace Go.Evl
def Le (F G:Oracle):Prop:=∀q r,F q=some r->G q=some r
structure z7g (It:Nat->Oracle) (E:Oracle):Prop where
 up:∀n,Le (It n) (It (n+1))
 lim:∀q r,E q=some r↔∃n,It n q=some r
theorem z7g.le {It:Nat->Oracle} {E:Oracle} (h:z7g It E) {n m:Nat} (hnm:n<=m):Le (It n) (It m):=by
 induction hnm with
 | refl=>exact fun _ _ h=>h
 | step _ ih=>exact fun q r hq=>h.up _ q r (ih q r hq)
structure zck {α:Type} (It:Nat->Oracle) (E:Oracle) (f:Oracle->Option α):Prop where
 mono:∀F G,Le F G->∀r,f F=some r->f G=some r
 reach:∀r,f E=some r->∃n,f (It n)=some r
section
variable {It : Nat -> Oracle} {E : Oracle} {α β : Type}
theorem zck.const {f:Oracle->Option α} (h:∀F G,f F=f G):zck It E f:=
 ⟨fun F G _ _ hr=>(h G F).trans hr,fun _ hr=>⟨0,(h _ E).trans hr⟩⟩
theorem zck.query (hc:z7g It E) (q:Req):zck It E (fun F=>F q):=
 ⟨fun _ _ h r hr=>h q r hr,fun r hr=>(hc.lim q r).1 hr⟩
theorem zck.bind (hc:z7g It E) {f:Oracle->Option α} {k:α->Oracle->Option β} (hf:zck It E f) (hk:∀a,zck It E (k a)):zck It E (fun F=>(f F).bind fun a=>k a F):=by
 refine⟨fun F G h r hr=> ?_,fun r hr=> ?_⟩
 ·obtain⟨a,h1,h2⟩:=Option.bind_eq_some_iff.1 hr
  exact Option.bind_eq_some_iff.2 ⟨a,hf.mono F G h a h1,(hk a).mono F G h r h2⟩
 ·obtain⟨a,h1,h2⟩:=Option.bind_eq_some_iff.1 hr
  obtain⟨n,hn⟩:=hf.reach a h1
  obtain⟨k',hk'⟩:=(hk a).reach r h2
  refine⟨max n k',Option.bind_eq_some_iff.2 ⟨a,hf.mono _ _ (hc.le (Nat.le_max_left _ _)) a hn,(hk a).mono _ _ (hc.le (Nat.le_max_right _ _)) r hk'⟩⟩
theorem zck.of_eq {f g:Oracle->Option α} (h:∀F,f F=g F) (hg:zck It E g):zck It E f:=by
 have:f=g:=funext h
 rw [this];exact hg
theorem zma {p:Prop} [Decidable p] {f g:Oracle->Option α} (hf:zck It E f) (hg:zck It E g):zck It E (fun F=>if p then f F else g F):=by
 by_cases h:p
 ·exact zck.of_eq (fun F=>if_pos h) hf
 ·exact zck.of_eq (fun F=>if_neg h) hg
variable (hc : z7g It E)
include hc
theorem z0h (cx:Cx) (f:V) (args:List V) (m:Mem):zck It E (fun F=>zhx F cx f args m):=by
 cases f with
 | fn f first caps=>
  refine zck.of_eq (g:=fun F=>(F (.call cx.nx f (first ++args++caps) m)).bind fun r=>match r with| .val v m'=>some (v,m')|_=>none) (fun F=> ?_) (zck.bind hc (zck.query hc _) fun r=>zck.const fun _ _=>rfl)
  simp only [zhx]
  cases F (.call cx.nx f (first ++args++caps) m) with
  | none=>rfl
  | some r=>cases r<;>rfl
 | yld o=>
  refine zck.of_eq (g:=fun F=>(F (.round cx.nx o args m)).bind fun r=>match r with| .val v m'=>some (v,m')|_=>none) (fun F=> ?_) (zck.bind hc (zck.query hc _) fun r=>zck.const fun _ _=>rfl)
  simp only [zhx]
  cases F (.round cx.nx o args m) with
  | none=>rfl
  | some r=>cases r<;>rfl
 | _=>exact zck.const fun _ _=>rfl
theorem zmm (cx:Cx) (slot:Nat) (shared imm:Bool) (f:V) (args:List V) (m:Mem):zck It E (fun F=>zkd F cx slot shared imm f args m):=by
 unfold zkd
 refine zma (zma ?_ (zck.const fun _ _=>rfl)) ?_
 ·refine zck.of_eq (g:=fun F=>(zhx F cx f args m).bind fun p=>if zig cx.nx (idsAll (zel cx.nx p.2)) then znk cx slot cx.nx imm (zel cx.nx p.2) p.2 p.1 else none) (fun F=> ?_) (zck.bind hc (z0h hc cx f args m) fun r=>zck.const fun _ _=>rfl)
  cases zhx F cx f args m<;>rfl
 ·cases f with
  | fn f first caps=>
   dsimp only
   generalize zen false m (first ++args++caps)=o
   cases o with
   | none=>exact zck.const fun _ _=>rfl
   | some ds=>
    refine zck.of_eq (g:=fun F=>(F (.call 0 f (asV ds) [])).bind fun r=>match r with| .val v m'=>znk cx slot 0 imm m m' v|_=>none) (fun F=> ?_) (zck.bind hc (zck.query hc _) fun r=>zck.const fun _ _=>rfl)
    simp only
    cases F (.call 0 f (asV ds) []) with
    | none=>rfl
    | some r=>cases r<;>rfl
  | _=>exact zck.const fun _ _=>rfl
theorem yak (f:V) (args:List V) (m:Mem):zck It E (fun F=>zup F f args m):=by
 cases f with
 | fn f first caps=>
  simp only [zup]
  refine zma ?_ (zck.const fun _ _=>rfl)
  refine zck.of_eq (g:=fun F=>(F (.call 1 f (renL (number ⟨0,0⟩ 0 0 (reach 0 m 64 (idsL (first ++args++caps)) [])) (first ++args++caps)) (moved (number ⟨0,0⟩ 0 0 (reach 0 m 64 (idsL (first ++args++caps)) [])) m (number ⟨0,0⟩ 0 0 (reach 0 m 64 (idsL (first ++args++caps)) []))))).bind fun r=>match r with
   | .val v m1=>if z8r m1 (moved (number ⟨0,0⟩ 0 0 (reach 0 m 64 (idsL (first ++args++caps)) [])) m (number ⟨0,0⟩ 0 0 (reach 0 m 64 (idsL (first ++args++caps)) [])))&&(ids v).all (fun i=>((number ⟨0,0⟩ 0 0 (reach 0 m 64 (idsL (first ++args++caps)) [])).map (·.2)).elem i) then some (ren (znd (number ⟨0,0⟩ 0 0 (reach 0 m 64 (idsL (first ++args++caps)) []))) v) else none
   | _=>none) (fun F=> ?_) (zck.bind hc (zck.query hc _) fun r=>zck.const fun _ _=>rfl)
  generalize number ⟨0,0⟩ 0 0 (reach 0 m 64 (idsL (first ++args++caps)) [])=σ
  cases F (.call 1 f (renL σ (first ++args++caps)) (moved σ m σ)) with
  | none=>rfl
  | some r=>cases r<;>rfl
 | _=>exact zck.const fun _ _=>rfl
theorem z0i (imm:Bool) (f:V) (args:List V) (m:Mem):zck It E (fun F=>zsj F imm f args m):=by
 cases f with
 | fn f first caps=>
  simp only [zsj]
  refine zma ?_ (zck.const fun _ _=>rfl)
  refine zck.of_eq (g:=fun F=>(F (.call 1 f (renL (number ⟨0,0⟩ 0 0 (reach 0 m 64 (idsL ((first ++args++caps).map (zvq m))) [])) ((first ++args++caps).map (zvq m))) (moved (number ⟨0,0⟩ 0 0 (reach 0 m 64 (idsL ((first ++args++caps).map (zvq m))) [])) m (number ⟨0,0⟩ 0 0 (reach 0 m 64 (idsL ((first ++args++caps).map (zvq m))) []))))).bind fun r=>match r with
   | .val v m1=>
    if imm then
     if zig 1 (znr (moved (number ⟨0,0⟩ 0 0 (reach 0 m 64 (idsL ((first ++args++caps).map (zvq m))) [])) m (number ⟨0,0⟩ 0 0 (reach 0 m 64 (idsL ((first ++args++caps).map (zvq m))) []))))&&zig 1 (idsAll (zel 1 m1)) then
      match znk ⟨0,1⟩ 0 1 true (zel 1 m1) m1 v with
      | some (v',m2)=>if(ids v').all (fun i=>((number ⟨0,0⟩ 0 0 (reach 0 m 64 (idsL ((first ++args++caps).map (zvq m))) [])).map (·.2)).elem i) then(zs3 (number ⟨0,0⟩ 0 0 (reach 0 m 64 (idsL ((first ++args++caps).map (zvq m))) [])) m2 (number ⟨0,0⟩ 0 0 (reach 0 m 64 (idsL ((first ++args++caps).map (zvq m))) [])) m).map fun m'=>(ren (znd (number ⟨0,0⟩ 0 0 (reach 0 m 64 (idsL ((first ++args++caps).map (zvq m))) []))) v',m') else none
      | none=>none
     else none
    else if(ids v).all (fun i=>((number ⟨0,0⟩ 0 0 (reach 0 m 64 (idsL ((first ++args++caps).map (zvq m))) [])).map (·.2)).elem i) then(zs3 (number ⟨0,0⟩ 0 0 (reach 0 m 64 (idsL ((first ++args++caps).map (zvq m))) [])) m1 (number ⟨0,0⟩ 0 0 (reach 0 m 64 (idsL ((first ++args++caps).map (zvq m))) [])) m).map fun m'=>(ren (znd (number ⟨0,0⟩ 0 0 (reach 0 m 64 (idsL ((first ++args++caps).map (zvq m))) []))) v,m') else none
   | _=>none) (fun F=> ?_) (zck.bind hc (zck.query hc _) fun r=>zck.const fun _ _=>rfl)
  generalize number ⟨0,0⟩ 0 0 (reach 0 m 64 (idsL ((first ++args++caps).map (zvq m))) [])=σ
  cases F (.call 1 f (renL σ ((first ++args++caps).map (zvq m))) (moved σ m σ)) with
  | none=>rfl
  | some r=>cases r<;>rfl
 | _=>exact zck.const fun _ _=>rfl
theorem z0g {γ:Type} {run:Oracle->γ->Option α} (h:∀a,zck It E (fun F=>run F a)):∀l:List γ,zck It E (fun F=>yfy (run F) l)
 | []=>zck.const fun _ _=>rfl
 | a::r=>zck.bind hc (h a) fun _=>zck.bind hc (z0g h r) fun _=>zck.const fun _ _=>rfl
theorem z77 {run:Oracle->Mem->Option (V×Mem)} (h:∀m,zck It E (fun F=>run F m)) (m:Mem) (v:V):zck It E (fun F=>zn8 (run F) m v):=by
 unfold zn8
 split
 ·split
  ·exact zma (zck.bind hc (h _) fun _=>zck.bind hc (z0g hc (fun _=>h _) _) fun _=>zck.const fun _ _=>rfl) (zck.const fun _ _=>rfl)
  ·exact h m
 ·exact h m
theorem zqx {body:Oracle->Env->Mem->Option (Ex×Env×Mem)} (h:∀e m,zck It E (fun F=>body F e m)) (it:Nat) (i:Id) (out nxt pair:Nat) (live:List Nat) (keep:List Id):
  ∀(l:List (D×V)) (e:Env) (m:Mem),zck It E (fun F=>zib (body F) it i out nxt pair live keep l e m)
 | [],_,_=>zck.const fun _ _=>rfl
 | (k,v)::r,e,m=>by
  refine zck.bind hc (h _ _) fun p=> ?_
  unfold zj0
  split
  ·exact zma (zqx h it i out nxt pair live keep r _ _) (zck.const fun _ _=>rfl)
  ·exact zck.const fun _ _=>rfl
theorem z79 {body:Oracle->Env->Mem->Option (Ex×Env×Mem)} (h:∀e m,zck It E (fun F=>body F e m)) (cx:Cx) (it:Nat) (x:Opd) (out nxt pair:Nat) (live:List Nat) (e:Env) (m:Mem):
  zck It E (fun F=>zpv (body F) cx it x out nxt pair live e m):=by
 unfold zpv
 split
 ·split
  ·exact zck.bind hc (zck.bind hc (zqx hc h _ _ _ _ _ _ _ _ _ _) fun _=>zck.bind hc (z0g hc (fun _=>zqx hc h _ _ _ _ _ _ _ _ _ _) _) fun _=>zck.const fun _ _=>rfl) fun _=>zck.const fun _ _=>rfl
  ·exact zck.const fun _ _=>rfl
 ·exact zck.const fun _ _=>rfl
theorem z78 (cx:Cx) (slot:Nat) (e:Env) (m:Mem) (op:COp):zck It E (fun F=>zdg F cx slot e m op):=by
 cases op with
 | call s i f args=>exact zmm hc cx slot s i _ _ m
 | callD f args=>
  simp only [zdg]
  split
  ·split
   ·exact zmm hc cx slot false true _ _ m
   ·exact zck.const fun _ _=>rfl
  ·exact zck.const fun _ _=>rfl
 | callK i f args=>
  refine zck.of_eq (g:=fun F=>(zkd F cx slot true i (zqo (f.ev e)) (evs e args) m).bind fun p=>if leM m p.2 m=true then some (p.1,m) else none) (fun F=> ?_) (zck.bind hc (zmm hc cx slot true i _ _ m) fun p=>zck.const fun _ _=>rfl)
  simp only [zdg]
  cases zkd F cx slot true i (zqo (f.ev e)) (evs e args) m<;>rfl
 | callQ f args=>
  refine zck.of_eq (g:=fun F=>(zup F (zqo (f.ev e)) (evs e args) m).bind fun v=>some (v,m)) (fun F=> ?_) (zck.bind hc (yak hc _ _ m) fun p=>zck.const fun _ _=>rfl)
  simp only [zdg]
  cases zup F (zqo (f.ev e)) (evs e args) m<;>rfl
 | callU b f args=>exact z0i hc b _ _ m
 | callN f args=>
  simp only [zdg]
  split
  ·split
   ·exact zmm hc cx slot false false _ _ m
   ·exact zck.const fun _ _=>rfl
  ·exact zck.const fun _ _=>rfl
 | callB i f args b=>exact z77 hc (fun m=>zmm hc cx slot true i _ _ m) m _
 | callR i f args rs=>
  refine zck.of_eq (g:=fun F=>(zkd F cx slot true i (zqo (f.ev e)) (evs e args) m).bind fun p=>if z8s m p.2 (rs.map (get e))=true then some p else none) (fun F=> ?_) (zck.bind hc (zmm hc cx slot true i _ _ m) fun p=>zck.const fun _ _=>rfl)
  simp only [zdg]
  cases zkd F cx slot true i (zqo (f.ev e)) (evs e args) m<;>rfl
 | _=>exact zck.const fun _ _=>rfl
theorem ye1 (cx:Cx) (e:Env) (m:Mem) (o:CO):zck It E (fun F=>zfk F cx e m o):=by
 obtain⟨dst,guard,op⟩:=o
 cases guard with
 | none=>exact z78 hc cx _ e m op
 | some g=>
  obtain⟨t,want⟩:=g
  simp only [zfk]
  split
  ·split
   ·exact z78 hc cx _ e m op
   ·exact zck.const fun _ _=>rfl
  ·exact zck.const fun _ _=>rfl
  ·exact zck.const fun _ _=>rfl
theorem zoo (cx:Cx):∀(os:List CO) (e:Env) (m:Mem),zck It E (fun F=>zk9 F cx os e m)
 | [],e,m=>zck.const fun _ _=>rfl
 | o::r,e,m=>by
  refine zck.of_eq (g:=fun F=>(zfk F cx e m o).bind fun p=>zk9 F cx r (put? e o.dst p.1) p.2) (fun F=> ?_) (zck.bind hc (ye1 hc cx e m o) fun p=>zoo cx r _ _)
  simp only [zk9]
  cases zfk F cx e m o<;>rfl
def yp8:Res->Option (Ex×Env×Mem)
 | .st x e' m'=>some (x,e',m')
 | _=>none
def yls (cx:Cx) (i:Id) (e:Env):Res->Option (Ex×Env×Mem)
 | .val _ m'=>
  match look m' i with
  | some (.loop _ _ _ _ _ false _ j)=>
   if zig cx.nx (idsAll (zel cx.nx m')) then
    let m2:=upd (zel cx.nx m') i .gone
    match j with
    | none=>some (.normal,e,m2)
    | some j=>some (j.ex,e,m2)
   else none
  | _=>none
 | _=>none
theorem zjl (cx:Cx):∀(c:C) (e:Env) (m:Mem),zck It E (fun F=>evC F cx c e m)
 | .skip,e,m=>zck.const fun _ _=>rfl
 | .label,e,m=>zck.const fun _ _=>rfl
 | .exit _,e,m=>zck.const fun _ _=>rfl
 | .ret,e,m=>zck.const fun _ _=>rfl
 | .bad,e,m=>zck.const fun _ _=>rfl
 | .scope c,e,m=>by simp only [evC];exact zjl cx c e m
 | .reg _ ops kill,e,m=>by
  refine zck.of_eq (g:=fun F=>(zk9 F cx ops e m).bind fun p=>some (.normal,zj4 kill p.1,p.2)) (fun F=> ?_) (zck.bind hc (zoo hc cx ops e m) fun p=>zck.const fun _ _=>rfl)
  simp only [evC]
  cases zk9 F cx ops e m<;>rfl
 | .regC ops kill chk,e,m=>zck.bind hc (zoo hc cx ops e m) fun p=>zck.const fun _ _=>rfl
 | .seq a b,e,m=>by
  refine zck.of_eq (g:=fun F=>(evC F cx a e m).bind fun p=>match p with|(.normal,e',m')=>evC F cx b e' m'|p=>some p) (fun F=> ?_) (zck.bind hc (zjl cx a e m) fun p=> ?_)
  ·simp only [evC]
   cases evC F cx a e m with
   | none=>rfl
   | some p=>obtain⟨x,e',m'⟩:=p;cases x<;>rfl
  ·obtain⟨x,e',m'⟩:=p
   cases x with
   | normal=>exact zjl cx b e' m'
   | _=>exact zck.const fun _ _=>rfl
 | .cond c a b,e,m=>by
  simp only [evC]
  split
  ·exact zma (zjl cx a e m) (zjl cx b e m)
  ·exact zck.const fun _ _=>rfl
 | .block id c,e,m=>by
  refine zck.of_eq (g:=fun F=>(evC F cx c e m).bind fun p=>match p with|(.exit j,e',m')=>if j=id then some (.normal,e',m') else some (.exit j,e',m')|p=>some p) (fun F=> ?_) (zck.bind hc (zjl cx c e m) fun p=>zck.const fun _ _=>rfl)
  simp only [evC]
  cases evC F cx c e m with
  | none=>rfl
  | some p=>obtain⟨x,e',m'⟩:=p;cases x<;>rfl
 | .loop live c,e,m=>by
  refine zck.of_eq (g:=fun F=>(F (.loop cx live (znr m) c (only live e) (gc (znr m) (only live e) m))).bind yp8) (fun F=> ?_) (zck.bind hc (zck.query hc _) fun p=>zck.const fun _ _=>rfl)
  simp only [evC]
  cases F (.loop cx live (znr m) c (only live e) (gc (znr m) (only live e) m)) with
  | none=>rfl
  | some r=>cases r<;>rfl
 | .rangeM pre it x out nxt pair live ops kill code,e,m=>by
  simp only [evC]
  exact zck.bind hc (zoo hc cx pre e m) fun p=>z79 hc (fun e m=>zck.bind hc (zoo hc cx ops e m) fun q=>zjl cx code _ _) _ _ _ _ _ _ _ _ _
 | .rangeFn slot f ps a b,e,m=>by
  simp only [evC]
  refine zma ?_ (zck.const fun _ _=>rfl)
  cases f.ev e with
  | fn g first caps=>
   refine zck.of_eq (g:=fun F=>(F (.call cx.nx g (first ++[.yld (newId cx slot m)]++caps) (upd m (newId cx slot m) (.loop e ps a b cx.lv false false none)))).bind (yls cx (newId cx slot m) e)) (fun F=> ?_) (zck.bind hc (zck.query hc _) fun p=>zck.const fun _ _=>rfl)
   simp only
   cases F (.call cx.nx g (first ++[.yld (newId cx slot m)]++caps) (upd m (newId cx slot m) (.loop e ps a b cx.lv false false none))) with
   | none=>rfl
   | some r=>cases r<;>rfl
  | _=>exact zck.const fun _ _=>rfl
theorem z8a (Γ:Nat->Option CF) (X:Extern) (q:Req):zck It E (fun F=>step Γ X F q):=by
 cases q with
 | call lv f args m=>
  simp only [step]
  cases X f with
  | some x=>exact zck.const fun _ _=>rfl
  | none=>
   cases Γ f with
   | none=>exact zck.const fun _ _=>rfl
   | some cf=>
    refine zck.of_eq (g:=fun F=>(evC F ⟨lv,lv+1⟩ cf.body (params 0 args) m).bind fun p=>match p with|(.normal,e,m')=>(results m' e cf.results).map fun v=> .val v m'|(.ret,e,m')=>(results m' e cf.results).map fun v=> .val v m'|_=>none) (fun F=> ?_) (zck.bind hc (zjl hc _ _ _ _) fun p=>zck.const fun _ _=>rfl)
    simp only
    cases evC F ⟨lv,lv+1⟩ cf.body (params 0 args) m with
    | none=>rfl
    | some p=>obtain⟨x,e',m'⟩:=p;cases x<;>rfl
 | round nx o args m=>
  simp only [step]
  split
  ·rename_i e ps a b lv j hl
   refine zma ?_ (zck.const fun _ _=>rfl)
   refine zck.of_eq (g:=fun F=>(evC F ⟨lv,nx⟩ a (ypb ps args e) m).bind fun p=>match p with
    | (.normal,e1,m1)=>(match look m1 o with
     | some (.loop e' ps' a' b' lv' false false j')=>(evC F ⟨lv,nx⟩ b e1 (upd m1 o (.loop e' ps' a' b' lv' true false j'))).bind fun p=>match p with
      | (x,_,m2)=>match look m2 o with
       | some (.loop e' ps' a' b' lv' true false _)=>(match x with
        | .normal=>some (.val (.d (.bool true)) (gc (znr m) [] (upd m2 o (.loop e' ps' a' b' lv' false false none))))
        | .exit id=>some (.val (.d (.bool false)) (upd m2 o (.loop e' ps' a' b' lv' false true (some (.exit id)))))
        | .ret=>some (.val (.d (.bool false)) (upd m2 o (.loop e' ps' a' b' lv' false true (some .ret)))))
       | _=>none
     | _=>none)
    | _=>none) (fun F=> ?_) (zck.bind hc (zjl hc _ _ _ _) fun p=> ?_)
   ·simp only
    cases evC F ⟨lv,nx⟩ a (ypb ps args e) m with
    | none=>rfl
    | some p=>
     obtain⟨x,e',m'⟩:=p
     cases x with
     | normal=>
      simp only [Option.bind]
      split
      ·rename_i e2 ps2 a2 b2 lv2 j2 hlk
       simp only [hlk]
       cases evC F ⟨lv,nx⟩ b e' (upd m' o (.loop e2 ps2 a2 b2 lv2 true false j2)) with
       | none=>rfl
       | some p=>rfl
      ·rename_i hno
       split
       ·rename_i hlk
        exact absurd hlk (hno _ _ _ _ _ _)
       ·rfl
     | exit id=>rfl
     | ret=>rfl
   ·obtain⟨x,e1,m1⟩:=p
    cases x with
    | normal=>
     simp only
     split
     ·exact zck.bind hc (zjl hc _ _ _ _) fun p=>zck.const fun _ _=>rfl
     ·exact zck.const fun _ _=>rfl
    | _=>exact zck.const fun _ _=>rfl
  ·exact zck.const fun _ _=>rfl
 | loop cx live keep body e m=>
  simp only [step]
  refine zck.of_eq (g:=fun F=>(evC F cx body e m).bind fun p=>match p with|(.normal,e',m')=>F (.loop cx live keep body (only live e') (gc keep (only live e') m'))|(x,e',m')=>some (.st x e' m')) (fun F=> ?_) (zck.bind hc (zjl hc _ _ _ _) fun p=> ?_)
  ·cases evC F cx body e m with
   | none=>rfl
   | some p=>obtain⟨x,e',m'⟩:=p;cases x<;>rfl
  ·obtain⟨x,e',m'⟩:=p
   cases x with
   | normal=>exact zck.query hc _
   | _=>exact zck.const fun _ _=>rfl
end
structure Lim (Γ:Nat->Option CF) (X:Extern) (E:Oracle):Prop where
 fix:∀q,E q=step Γ X E q
 reach:∀q r,E q=some r->∃n,iter Γ X n q=some r
theorem z1w {Γ:Nat->Option CF} {X:Extern} {F G:Oracle} (h:Le F G):Le (step Γ X F) (step Γ X G):=by
 have hc:z7g (fun _=>G) G:=⟨fun _ _ _ h=>h,fun _ _=>⟨fun h=>⟨0,h⟩,fun h=>h.elim fun _ h=>h⟩⟩
 exact fun q r hr=>(z8a hc Γ X q).mono F G h r hr
theorem yaz (Γ:Nat->Option CF) (X:Extern):∀n,Le (iter Γ X n) (iter Γ X (n+1))
 | 0=>fun _ _ h=>by simp [iter] at h
 | n+1=>z1w (yaz Γ X n)
theorem exists_lim (Γ:Nat->Option CF) (X:Extern):∃E,Lim Γ X E:=by
 have hd:∀q:Req,∃a:Option Res,∀r,a=some r↔∃n,iter Γ X n q=some r:=by
  intro q
  by_cases h:∃r,∃n,iter Γ X n q=some r
  ·obtain⟨r,n,hn⟩:=h
   refine⟨some r,fun r'=>⟨fun h=>⟨n,by rw [hn,h]⟩,fun⟨k,hk⟩=> ?_⟩⟩
   have up:∀a b,a<=b->Le (iter Γ X a) (iter Γ X b):=by
    intro a b hab
    induction hab with
    | refl=>exact fun _ _ h=>h
    | step _ ih=>exact fun q r hq=>yaz Γ X _ q r (ih q r hq)
   rw [<-up n (max n k) (Nat.le_max_left _ _) q r hn,up k (max n k) (Nat.le_max_right _ _) q r' hk]
  ·exact⟨none,fun r=>⟨fun h=>(nomatch h),fun hn=>absurd ⟨r,hn⟩ h⟩⟩
 have ⟨E,hE⟩:=Classical.axiomOfChoice hd
 have hc:z7g (iter Γ X) E:=⟨yaz Γ X,hE⟩
 refine⟨E,⟨fun q=> ?_,fun q r h=>(hE q r).1 h⟩⟩
 apply Option.ext
 intro r
 constructor
 ·intro h
  obtain⟨n,hn⟩:=(hE q r).1 h
  cases n with
  | zero=>simp [iter] at hn
  | succ n=>exact z1w (fun q r h=>(hE q r).2 ⟨n,h⟩) q r hn
 ·intro h
  obtain⟨n,hn⟩:=(z8a hc Γ X q).reach r h
  exact(hE q r).2 ⟨n+1,hn⟩
theorem Lim.of_iter {Γ:Nat->Option CF} {X:Extern} {E:Oracle} (h:Lim Γ X E):∀(n:Nat) (q:Req) (r:Res),iter Γ X n q=some r->E q=some r
 | 0,_,_,hn=>by simp [iter] at hn
 | n+1,q,r,hn=>by
  rw [h.fix]
  exact z1w (fun q r=>h.of_iter n q r) q r hn
end Go.Evl
namespace Go.Evl
structure zbd (p k:Prop):Prop where
 need:p
 go:k
structure Br (t:Bool) (a b:Prop):Prop where
 yes:t=true->a
 no:t=false->b
structure Cmp (p a b:Prop):Prop where
 yes:p->a
 no:¬p->b
structure Wr (k:IntKind) (x:Int) (K:Int->Prop):Prop where
 go:K (k.wrap x)
structure Rem (a b:Int) (K:Int->Prop):Prop where
 ne:b≠0
 go:K (a.tmod b)
structure Quo (k:IntKind) (a b:Int) (K:Int->Prop):Prop where
 ne:b≠0
 go:K (k.wrap (a.tdiv b))
structure zfa (cs:List D) (off:Nat) (K:D->Prop):Prop where
 got:∃d,cs[off]? =some d/\K d
structure yer (cs:List V) (off:Nat) (K:V->Prop):Prop where
 got:∃d,cs[off]? =some d/\K d
structure z14 (cs:List D) (off n:Nat) (K:List D->Prop):Prop where
 le:off+n<=cs.length
 go:K (win cs off n)
structure zg2 (s:List UInt8) (i:Nat) (K:UInt8->Prop):Prop where
 got:∃b,s[i]? =some b/\K b
structure zrv {α:Type} (o:Option α) (K:α->Prop):Prop where
 got:∃a,o=some a/\K a
def Fc (E:Oracle) (f:Nat) (args:List V) (r:V):Prop:=∃v m',E (.call 0 f args [])=some (.val v m')/\ycb m' v=some r
structure zah (E:Oracle) (f:Nat) (args:List V) (K:V->Prop):Prop where
 got:∃r,Fc E f args r/\K r
structure zb8 (E:Oracle) (f:Nat) (args:List V) (cx:Cx) (slot:Nat) (m:Mem) (K:V->Mem->Prop):Prop where
 got:∃v m' p,E (.call 0 f args [])=some (.val v m')/\settle cx slot 0 m m' v=some p/\K p.1 p.2
structure In (E:Oracle) (lv f:Nat) (args:List V) (m:Mem) (K:V->Mem->Prop):Prop where
 got:∃v m',E (.call lv f args m)=some (.val v m')/\K v m'
structure Rnd (E:Oracle) (nx:Nat) (o:Id) (args:List V) (m:Mem) (K:V->Mem->Prop):Prop where
 got:∃v m',E (.round nx o args m)=some (.val v m')/\K v m'
structure zak (E:Oracle) (cx:Cx) (live:List Nat) (keep:List Id) (body:C) (e:Env) (m:Mem) (K:Ex->Env->Mem->Prop):Prop where
 got:∃x e' m',E (.loop cx live keep body e m)=some (.st x e' m')/\K x e' m'
structure Chk (b:Bool) (k:Prop):Prop where
 need:b=true
 go:k
structure Ret (a b:V):Prop where
 eq:a=b
def yk1:Env->Nat->(V->Prop)->Prop
 | [],_,K=>K .undef
 | (u,v)::r,t,K=>match Nat.beq u t with
  | true=>K v
  | false=>yk1 r t K
theorem ztn:∀(e:Env) (t:Nat) (K:V->Prop),yk1 e t K=K (get e t)
 | [],_,_=>rfl
 | (u,v)::r,t,K=>by
  simp only [yk1,get]
  cases h:Nat.beq u t with
  | true=>simp [Nat.eq_of_beq_eq_true h]
  | false=>
   have:u≠t:=fun hh=>by rw [hh,Nat.beq_refl] at h;cases h
   simp only [if_neg this]
   exact ztn r t K
def opK (e:Env) (x:Opd) (K:V->Prop):Prop:=
 match x with
 | .t n=>yk1 e n K
 | .k v=>K v
theorem zct (e:Env) (x:Opd) (K:V->Prop):opK e x K=K (x.ev e):=by
 cases x with
 | t n=>exact ztn e n K
 | k v=>rfl
def z95 (e:Env):List Opd->(List V->Prop)->Prop
 | [],K=>K []
 | x::r,K=>opK e x fun v=>z95 e r fun vs=>K (v::vs)
theorem zkk (e:Env):∀(l:List Opd) (K:List V->Prop),z95 e l K=K (evs e l)
 | [],_=>rfl
 | x::r,K=>by simp only [z95,evs,zct,zkk e r]
def ye2 (e:Env):List Nat->(List V->Prop)->Prop
 | [],K=>K []
 | t::r,K=>yk1 e t fun v=>ye2 e r fun vs=>K (v::vs)
theorem zyp (e:Env):∀(l:List Nat) (K:List V->Prop),ye2 e l K=K (l.map (get e))
 | [],_=>rfl
 | t::r,K=>by simp only [ye2,ztn,zyp e r,List.map_cons]
def opK? (e:Env) (x:Option Opd) (K:Option V->Prop):Prop:=
 match x with
 | none=>K none
 | some x=>opK e x fun v=>K (some v)
theorem opK?_eq (e:Env) (x:Option Opd) (K:Option V->Prop):opK? e x K=K (x.map (·.ev e)):=by
 cases x with
 | none=>rfl
 | some x=>exact zct e x _
def yqg:Env->Nat->V->(Env->Prop)->Prop
 | [],t,v,K=>K [(t,v)]
 | (u,x)::r,t,v,K=>match Nat.beq u t with
  | true=>K ((t,v)::r)
  | false=>yqg r t v fun r'=>K ((u,x)::r')
theorem ybn:∀(e:Env) (t:Nat) (v:V) (K:Env->Prop),yqg e t v K=K (put e t v)
 | [],_,_,_=>rfl
 | (u,x)::r,t,v,K=>by
  simp only [yqg,put]
  cases h:Nat.beq u t with
  | true=>simp [Nat.eq_of_beq_eq_true h]
  | false=>
   have:u≠t:=fun hh=>by rw [hh,Nat.beq_refl] at h;cases h
   simp only [if_neg this]
   exact ybn r t v _
def put?K (e:Env) (t:Option Nat) (v:V) (K:Env->Prop):Prop:=
 match t with
 | none=>K e
 | some t=>yqg e t v K
theorem put?K_eq (e:Env) (t:Option Nat) (v:V) (K:Env->Prop):put?K e t v K=K (put? e t v):=by
 cases t with
 | none=>rfl
 | some t=>exact ybn e t v K
def yre:List Nat->Nat->Bool
 | [],_=>false
 | u::r,t=>match Nat.beq u t with
  | true=>true
  | false=>yre r t
theorem yho:∀(l:List Nat) (t:Nat),yre l t=l.elem t
 | [],_=>rfl
 | u::r,t=>by
  simp only [yre]
  cases h:Nat.beq u t with
  | true=>simp [Nat.eq_of_beq_eq_true h]
  | false=>
   have:t≠u:=fun hh=>by rw [hh,Nat.beq_refl] at h;cases h
   simp only [yho r t,List.elem_cons]
   have:(t==u)=false:=by simpa using this
   rw [this]
def zru (kill:List Nat):Env->(Env->Prop)->Prop
 | [],K=>K []
 | (u,v)::r,K=>match yre kill u with
  | true=>zru kill r K
  | false=>zru kill r fun r'=>K ((u,v)::r')
theorem zp1 (kill:List Nat):∀(e:Env) (K:Env->Prop),zru kill e K=K (zj4 kill e)
 | [],_=>rfl
 | (u,v)::r,K=>by
  simp only [zru,yho]
  cases h:kill.elem u with
  | true=>
   have hm:u∈kill:=by simpa using h
   simp only [zp1 kill r];simp [zj4,hm]
  | false=>
   have hm:u∉kill:=by simpa using h
   simp only [zp1 kill r];simp [zj4,hm]
def yh6 (e:Env):List Nat->(Env->Prop)->Prop
 | [],K=>K []
 | t::r,K=>yk1 e t fun v=>yh6 e r fun r'=>K ((t,v)::r')
theorem z6n (e:Env):∀(live:List Nat) (K:Env->Prop),yh6 e live K=K (only live e)
 | [],_=>rfl
 | t::r,K=>by simp only [yh6,ztn,z6n e r];rfl
def idB (i j:Id):Bool:=
 match Nat.beq i.slot j.slot with
 | true=>(match Nat.beq i.lv j.lv with
  | true=>Nat.beq i.k j.k
  | false=>false)
 | false=>false
theorem z54 {i j:Id} (h:idB i j=true):i=j:=by
 obtain⟨a,b,c⟩:=i
 obtain⟨x,y,z⟩:=j
 simp only [idB] at h
 split at h
 ·rename_i h1
  split at h
  ·rename_i h2
   rw [Nat.eq_of_beq_eq_true h1,Nat.eq_of_beq_eq_true h2,Nat.eq_of_beq_eq_true h]
  ·cases h
 ·cases h
theorem z0t {i j:Id} (h:idB i j=false):i≠j:=by
 rintro rfl
 obtain⟨a,b,c⟩:=i
 simp [idB,Nat.beq_refl] at h
def zmd:Mem->Id->(Option Ob->Prop)->Prop
 | [],_,K=>K none
 | (j,o)::r,i,K=>match idB j i with
  | true=>K (some o)
  | false=>zmd r i K
theorem zdl:∀(m:Mem) (i:Id) (K:Option Ob->Prop),zmd m i K=K (look m i)
 | [],_,_=>rfl
 | (j,o)::r,i,K=>by
  simp only [zmd,look]
  cases h:idB j i with
  | true=>simp [z54 h]
  | false=>simp only [if_neg (z0t h)];exact zdl r i K
def zy5:Mem->Id->Ob->(Mem->Prop)->Prop
 | [],i,o,K=>K [(i,o)]
 | (j,x)::r,i,o,K=>match idB j i with
  | true=>K ((i,o)::r)
  | false=>zy5 r i o fun r'=>K ((j,x)::r')
theorem ze9:∀(m:Mem) (i:Id) (o:Ob) (K:Mem->Prop),zy5 m i o K=K (upd m i o)
 | [],_,_,_=>rfl
 | (j,x)::r,i,o,K=>by
  simp only [zy5,upd]
  cases h:idB j i with
  | true=>simp [z54 h]
  | false=>simp only [if_neg (z0t h)];exact ze9 r i o _
def yhm:List Id->Id->Bool
 | [],_=>false
 | u::r,t=>match idB u t with
  | true=>true
  | false=>yhm r t
theorem yhn:∀(l:List Id) (t:Id),yhm l t=l.elem t
 | [],_=>rfl
 | u::r,t=>by
  simp only [yhm]
  cases h:idB u t with
  | true=>simp [z54 h]
  | false=>
   have h':t≠u:=fun hh=>z0t h hh.symm
   simp only [yhn r t,List.elem_cons]
   have:(t==u)=false:=by simpa using h'
   rw [this]
def gcF (a b c:List Id):Mem->(Mem->Prop)->Prop
 | [],K=>K []
 | (i,o)::r,K=>match yhm a i with
  | true=>gcF a b c r fun r'=>K ((i,o)::r')
  | false=>(match yhm b i with
   | true=>gcF a b c r fun r'=>K ((i,o)::r')
   | false=>(match yhm c i with
    | true=>gcF a b c r fun r'=>K ((i,o)::r')
    | false=>gcF a b c r K))
theorem ym0 (a b c:List Id):∀(m:Mem) (K:Mem->Prop),gcF a b c m K=K (m.filter fun p=>a.elem p.1||b.elem p.1||c.elem p.1)
 | [],_=>rfl
 | (i,o)::r,K=>by
  simp only [gcF,yhn]
  cases ha:a.elem i<;>cases hb:b.elem i<;>cases hc:c.elem i<;>simp only [ym0 a b c r,List.filter_cons,ha,hb,hc]<;>rfl
def gcK (keep:List Id) (e:Env) (m:Mem) (K:Mem->Prop):Prop:=
 match m with
 | []=>K []
 | _::_=>gcF keep (yf0 e) (idsAll m) m fun m1=>gcF keep (yf0 e) (idsAll m1) m1 fun m2=>gcF keep (yf0 e) (idsAll m2) m2 K
theorem yg2 (keep:List Id) (e:Env) (m:Mem) (K:Mem->Prop):gcK keep e m K=K (gc keep e m):=by
 cases m with
 | nil=>rfl
 | cons p r=>simp only [gcK,ym0];rfl
def z3o (lv slot:Nat):Mem->(Nat->Prop)->Prop
 | [],K=>K 0
 | (j,_)::r,K=>match Nat.beq j.slot slot with
  | true=>(match Nat.beq j.lv lv with
   | true=>z3o lv slot r fun n=>K (max (j.k+1) n)
   | false=>z3o lv slot r K)
  | false=>z3o lv slot r K
theorem zuu (lv slot:Nat):∀(m:Mem) (K:Nat->Prop),z3o lv slot m K=K (freeK lv slot m)
 | [],_=>rfl
 | (j,o)::r,K=>by
  simp only [z3o,freeK]
  cases h1:Nat.beq j.slot slot with
  | false=>
   have:j.slot≠slot:=fun hh=>by rw [hh,Nat.beq_refl] at h1;cases h1
   simp only [this,and_false,if_false]
   exact zuu lv slot r K
  | true=>
   cases h2:Nat.beq j.lv lv with
   | false=>
    have:j.lv≠lv:=fun hh=>by rw [hh,Nat.beq_refl] at h2;cases h2
    simp only [this,false_and,if_false]
    exact zuu lv slot r K
   | true=>simp only [Nat.eq_of_beq_eq_true h1,Nat.eq_of_beq_eq_true h2,and_self,if_true,zuu lv slot r]
def yhr (cx:Cx) (slot:Nat) (m:Mem) (K:Id->Prop):Prop:=z3o cx.lv slot m fun n=>K ⟨cx.lv,slot,n⟩
theorem zof (cx:Cx) (slot:Nat) (m:Mem) (K:Id->Prop):yhr cx slot m K=K (newId cx slot m):=zuu _ _ _ _
def yay (cx:Cx) (slot:Nat):List yci->Mem->(List V->Mem->Prop)->Prop
 | [],m,K=>K [] m
 | .z x::r,m,K=>yay cx slot r m fun vs m'=>K (.d x::vs) m'
 | .own s::r,m,K=>yhr cx slot m fun i=>zy5 m i (.row s.wr s.t s.sz 0 []) fun m1=>yay cx slot r m1 fun vs m'=>K (.ref i 0 0 0::vs) m'
theorem zyq (cx:Cx) (slot:Nat):∀(l:List yci) (m:Mem) (K:List V->Mem->Prop),yay cx slot l m K=K (zbm cx slot l m).1 (zbm cx slot l m).2
 | [],_,_=>rfl
 | .z x::r,m,K=>by simp only [yay,zbm,zyq cx slot r]
 | .own s::r,m,K=>by simp only [yay,zbm,zof,ze9,zyq cx slot r]
mutual
def zho (any:Bool) (m:Mem):V->(D->Prop)->Prop
 | .d x,K=>K x
 | .agg cs,K=>zuv any m cs fun ds=>K (.agg ds)
 | .fn f [] [],K=>K (.fn f)
 | .ref o off len top,K=>zmd m o fun x=>
  match x with
  | some (.row wr _ sz n xs)=>
   (match (!wr||any) with
   | true=>zbd (n=top/\off+len<=n) (K (.list len (if off=0/\len=n then xs else win xs (off*sz) (len*sz))))
   | false=>False)
  | _=>False
 | _,_=>False
def zuv (any:Bool) (m:Mem):List V->(List D->Prop)->Prop
 | [],K=>K []
 | v::r,K=>zho any m v fun d=>zuv any m r fun ds=>K (d::ds)
end
mutual
theorem zrh (any:Bool) (m:Mem):∀(v:V) (K:D->Prop),zho any m v K->∃d,freeze any m v=some d/\K d
 | .d x,K,h=>⟨x,rfl,h⟩
 | .agg cs,K,h=>by
  obtain⟨ds,h1,h2⟩:=zpg any m cs _ h
  exact⟨_,by simp only [freeze,h1];rfl,h2⟩
 | .ref o off len top,K,h=>by
  simp only [zho,zdl] at h
  simp only [freeze]
  cases hl:look m o with
  | none=>rw [hl] at h;exact h.elim
  | some x=>
   rw [hl] at h
   cases x with
   | row wr t sz n xs=>
    simp only at h ⊢
    split at h
    ·rename_i hw
     have hc:(wr=false\/any=true)/\n=top/\off+len<=n:=⟨by cases wr<;>simp_all,h.need⟩
     exact⟨_,if_pos hc,h.go⟩
    ·exact h.elim
   | _=>exact h.elim
 | .tup _,_,h=>(by simp only [zho] at h)
 | .ptr ..,_,h=>(by simp only [zho] at h)
 | .lptr ..,_,h=>(by simp only [zho] at h)
 | .fn f [] [],K,h=>⟨_,rfl,h⟩
 | .fn _ (_::_) _,_,h=>(by simp only [zho] at h)
 | .fn _ [] (_::_),_,h=>(by simp only [zho] at h)
 | .yld _,_,h=>(by simp only [zho] at h)
 | .mp _,_,h=>(by simp only [zho] at h)
 | .it _,_,h=>(by simp only [zho] at h)
 | .skip,_,h=>(by simp only [zho] at h)
 | .undef,_,h=>(by simp only [zho] at h)
theorem zpg (any:Bool) (m:Mem):∀(vs:List V) (K:List D->Prop),zuv any m vs K->∃ds,zen any m vs=some ds/\K ds
 | [],K,h=>⟨[],rfl,h⟩
 | v::r,K,h=>by
  obtain⟨d,h1,h2⟩:=zrh any m v _ h
  obtain⟨ds,h3,h4⟩:=zpg any m r _ h2
  exact⟨d::ds,by simp only [zen,h1,h3],h4⟩
end
def ype:List D->(List V->Prop)->Prop
 | [],K=>K []
 | x::r,K=>ype r fun vs=>K (.d x::vs)
theorem z45:∀(l:List D) (K:List V->Prop),ype l K=K (asV l)
 | [],_=>rfl
 | x::r,K=>by simp only [ype,asV,z45 r]
def ymg (m:Mem) (v:V) (K:V->Prop):Prop:=
 match v with
 | .tup vs=>zuv true m vs fun xs=>ype xs fun ys=>K (.tup ys)
 | v=>zho true m v fun d=>K (.d d)
theorem yel (m:Mem) (v:V) (K:V->Prop) (h:ymg m v K):∃r,ycb m v=some r/\K r:=by
 have simple:∀v:V,(∀vs,v≠ .tup vs)->zho true m v (fun d=>K (.d d))->∃r,ycb m v=some r/\K r:=by
  intro v hv h
  obtain⟨d,h1,h2⟩:=zrh true m v _ h
  refine⟨.d d,?_,h2⟩
  unfold ycb
  split
  ·rename_i vs;exact absurd rfl (hv vs)
  ·rw [h1];rfl
 cases v with
 | tup vs=>
  obtain⟨xs,h1,h2⟩:=zpg true m vs _ h
  rw [z45] at h2
  exact⟨_,by simp only [ycb,h1];rfl,h2⟩
 | _=>exact simple _ (by intro vs hh;cases hh) h
def yki:List V->(Option (List D)->Prop)->Prop
 | [],K=>K (some [])
 | .d x::r,K=>yki r fun o=>
  match o with
  | some ds=>K (some (x::ds))
  | none=>K none
 | _::_,K=>K none
theorem ycm:∀(l:List V) (K:Option (List D)->Prop),yki l K=K (zsh l)
 | [],_=>rfl
 | v::r,K=>by
  cases v with
  | d x=>simp only [yki,zsh,ycm r];cases zsh r<;>rfl
  | _=>rfl
def yrc (cs:List V) (K:V->Prop):Prop:=yki cs fun o=>
 match o with
 | some ds=>K (.d (.agg ds))
 | none=>K (.agg cs)
theorem ygb (cs:List V) (K:V->Prop):yrc cs K=K (ya5 cs):=by
 simp only [yrc,ycm,ya5]
 cases zsh cs<;>rfl
def z7z (v:V) (K:List V->Prop):Prop:=
 match v with
 | .d (.agg cs)=>ype cs K
 | .agg cs=>K cs
 | .tup _=>False
 | .skip=>False
 | .undef=>False
 | v=>K [v]
theorem z0b (v:V) (K:List V->Prop) (h:z7z v K):∃cs,cellsOf v=some cs/\K cs:=by
 cases v with
 | d x=>
  cases x with
  | agg cs=>simp only [z7z,z45] at h;exact⟨_,rfl,h⟩
  | _=>exact⟨_,rfl,h⟩
 | tup _=>exact h.elim
 | skip=>exact h.elim
 | undef=>exact h.elim
 | _=>exact⟨_,rfl,h⟩
def over {α:Type}:List α->Nat->List α->List α
 | cs,0,[]=>cs
 | _::cs,0,x::xs=>x::over cs 0 xs
 | c::cs,n+1,xs=>c::over cs n xs
 | [],_,_=>[]
theorem z86 {α:Type}:∀(cs xs:List α),xs.length<=cs.length->over cs 0 xs=xs++cs.drop xs.length
 | cs,[],_=>by simp [over]
 | [],x::xs,h=>by simp at h
 | c::cs,x::xs,h=>by
  simp only [over,z86 cs xs (by simpa using h)]
  simp
theorem ybj {α:Type}:∀(cs:List α) (off:Nat) (xs:List α),off+xs.length<=cs.length->over cs off xs=patch cs off xs
 | cs,0,xs,h=>by
  rw [z86 cs xs (by omega)]
  simp [patch]
 | [],n+1,xs,h=>by simp at h
 | c::cs,n+1,xs,h=>by
  simp only [over,ybj cs n xs (by simp at h;omega),patch]
  simp [Nat.add_right_comm]
def z2x {α:Type}:List α->Nat->List α->(List α->Prop)->Prop
 | cs,0,[],K=>K cs
 | _::cs,0,x::xs,K=>z2x cs 0 xs fun r=>K (x::r)
 | c::cs,n+1,xs,K=>z2x cs n xs fun r=>K (c::r)
 | [],_,_,K=>K []
theorem zyv {α:Type}:∀(cs:List α) (off:Nat) (xs:List α) (K:List α->Prop),z2x cs off xs K=K (over cs off xs)
 | cs,0,[],K=>by simp only [z2x,over]
 | [],0,x::xs,K=>by simp only [z2x,over]
 | c::cs,0,x::xs,K=>by simp only [z2x,over,zyv cs 0 xs]
 | [],n+1,xs,K=>by simp only [z2x,over]
 | c::cs,n+1,xs,K=>by simp only [z2x,over,zyv cs n xs]
def ynw (cs:List V):List (Nat×Nat×V)->(List V->Prop)->Prop
 | [],K=>K cs
 | (off,n,v)::r,K=>z7z v fun xs=>
  match Nat.beq xs.length n with
  | true=>(match Nat.ble (off+n) cs.length with
   | true=>z2x cs off xs fun cs'=>ynw cs' r K
   | false=>False)
  | false=>False
theorem ycz:∀(l:List (Nat×Nat×V)) (cs:List V) (K:List V->Prop),ynw cs l K->∃cs',z8i cs l=some cs'/\K cs'
 | [],cs,K,h=>⟨cs,rfl,h⟩
 | (off,n,v)::r,cs,K,h=>by
  obtain⟨xs,h1,h2⟩:=z0b v _ h
  split at h2
  ·rename_i e1
   split at h2
   ·rename_i e2
    have e1':=Nat.eq_of_beq_eq_true e1
    have e2':=Nat.le_of_ble_eq_true e2
    rw [zyv] at h2
    obtain⟨cs',h3,h4⟩:=ycz r _ K h2
    refine⟨cs',?_,h4⟩
    simp only [z8i,h1]
    rw [if_pos ⟨e1',e2'⟩,<-ybj cs off xs (by omega)]
    exact h3
   ·exact h2.elim
  ·exact h2.elim
def ydu (e:Env):List (Nat×Nat×Opd)->(List (Nat×Nat×V)->Prop)->Prop
 | [],K=>K []
 | (a,b,x)::r,K=>opK e x fun v=>ydu e r fun l=>K ((a,b,v)::l)
theorem z87 (e:Env):∀(l:List (Nat×Nat×Opd)) (K:List (Nat×Nat×V)->Prop),ydu e l K=K (zva e l)
 | [],_=>rfl
 | (a,b,x)::r,K=>by simp only [ydu,zva,zct,z87 e r]
def yah (m:Mem) (v:V) (K:List D->Prop):Prop:=zho false m v fun d=>
 match d with
 | .agg cs=>K cs
 | x=>K [x]
theorem z3j (m:Mem) (v:V) (K:List D->Prop) (h:yah m v K):∃cs,zp3 m v=some cs/\K cs:=by
 obtain⟨d,h1,h2⟩:=zrh false m v _ h
 unfold zp3
 rw [h1]
 cases d<;>exact⟨_,rfl,h2⟩
def z8u (sz:Nat) (m:Mem):List V->(List D->Prop)->Prop
 | [],K=>K []
 | v::r,K=>yah m v fun x=>match Nat.beq x.length sz with
  | true=>z8u sz m r fun xs=>K (x++xs)
  | false=>False
theorem zu1 (sz:Nat) (m:Mem):∀(l:List V) (K:List D->Prop),z8u sz m l K->∃ds,zqk sz m l=some ds/\K ds
 | [],K,h=>⟨[],rfl,h⟩
 | v::r,K,h=>by
  obtain⟨x,h1,h2⟩:=z3j m v _ h
  split at h2
  ·rename_i e
   obtain⟨xs,h3,h4⟩:=zu1 sz m r _ h2
   refine⟨x++xs,?_,h4⟩
   simp only [zqk,h1,h3,if_pos (Nat.eq_of_beq_eq_true e)]
  ·exact h2.elim
structure za9 (n:Nat) (l h:Int) (K:Nat->Nat->Prop):Prop where
 ok:0<=h/\h<=n/\0<=l/\l<=h
 go:K l.toNat h.toNat
def zv3 (n:Nat) (lo hi:Option V) (K:Nat->Nat->Prop):Prop:=
 match lo,hi with
 | none,none=>K 0 n
 | some (.d (.int _ l)),none=>za9 n l n K
 | none,some (.d (.int _ h))=>za9 n 0 h K
 | some (.d (.int _ l)),some (.d (.int _ h))=>za9 n l h K
 | _,_=>False
theorem zrf (n:Nat) (lo hi:Option V) (K:Nat->Nat->Prop) (h:zv3 n lo hi K):∃p,zc0 n lo hi=some p/\K p.1 p.2:=by
 unfold zv3 at h
 split at h
 ·refine⟨(0,n),?_,h⟩
  simp [zc0]
 ·rename_i k l
  refine⟨(l.toNat,(n:Int).toNat),?_,h.go⟩
  simp only [zc0,asI]
  exact if_pos h.ok
 ·rename_i k l
  refine⟨((0:Int).toNat,l.toNat),?_,h.go⟩
  simp only [zc0,asI]
  exact if_pos h.ok
 ·rename_i k l k' l'
  refine⟨(l.toNat,l'.toNat),?_,h.go⟩
  simp only [zc0,asI]
  exact if_pos h.ok
 ·exact h.elim
def yif (n:Option Nat) (cs:List V) (off:Nat) (K:V->Prop):Prop:=
 match n with
 | none=>yer cs off K
 | some n=>zbd (off+n<=cs.length) (yrc (win cs off n) K)
theorem z89 (n:Option Nat) (cs:List V) (off:Nat) (K:V->Prop) (h:yif n cs off K):∃v,yfb n cs off=some v/\K v:=by
 cases n with
 | none=>obtain⟨d,h1,h2⟩:=h.got;exact⟨d,h1,h2⟩
 | some n=>obtain⟨h1,h2⟩:=h;rw [ygb] at h2;exact⟨_,if_pos h1,h2⟩
def z88 (n:Option Nat) (cs:List D) (off:Nat) (K:V->Prop):Prop:=
 match n with
 | none=>zfa cs off fun d=>K (.d d)
 | some n=>z14 cs off n fun ds=>K (.d (.agg ds))
theorem zvc (n:Option Nat) (cs:List D) (off:Nat) (K:V->Prop) (h:z88 n cs off K):∃v,z2y n cs off=some v/\K v:=by
 cases n with
 | none=>obtain⟨d,h1,h2⟩:=h.got;exact⟨_,by simp only [z2y,h1];rfl,h2⟩
 | some n=>obtain⟨h1,h2⟩:=h;exact⟨_,if_pos h1,h2⟩
def yle (n:Option Nat) (m:Mem) (a:V) (K:V->Prop):Prop:=
 match a with
 | .lptr cs off=>z88 n cs off K
 | .ptr o off top=>zmd m o fun x=>
  match x with
  | some (.cells _ cs)=>yif n cs off K
  | some (.row _ _ _ l xs)=>zbd (l=top) (z88 n xs off K)
  | _=>False
 | _=>False
theorem ydj (n:Option Nat) (m:Mem) (a:V) (K:V->Prop) (h:yle n m a K):∃v,z04 n m a=some v/\K v:=by
 unfold yle at h
 split at h
 ·exact zvc _ _ _ _ h
 ·rename_i o off top
  rw [zdl] at h
  simp only [z04]
  split at h
  ·rename_i hl;rw [hl];exact z89 _ _ _ _ h
  ·rename_i hl;rw [hl]
   obtain⟨v,h1,h2⟩:=zvc _ _ _ _ h.go
   exact⟨v,(if_pos h.need).trans h1,h2⟩
  ·exact h.elim
 ·exact h.elim
def yeg (n:Nat) (m:Mem) (a x:V) (K:Mem->Prop):Prop:=
 match a with
 | .ptr o off top=>zmd m o fun y=>
  match y with
  | some (.cells t cs)=>z7z x fun xs=>zbd (xs.length=n/\off+n<=cs.length) (z2x cs off xs fun cs'=>zy5 m o (.cells t cs') K)
  | some (.row true t sz l xs)=>yah m x fun ds=>zbd (ds.length=n/\off+n<=xs.length/\l=top) (zy5 m o (.row true t sz l (patch xs off ds)) K)
  | _=>False
 | _=>False
theorem z9z (n:Nat) (m:Mem) (a x:V) (K:Mem->Prop) (h:yeg n m a x K):∃m',zvm n m a x=some m'/\K m':=by
 unfold yeg at h
 split at h
 ·rename_i o off top
  rw [zdl] at h
  simp only [zvm]
  split at h
  ·rename_i hl;rw [hl]
   obtain⟨xs,h1,h2,h3⟩:=z0b x _ h
   rw [zyv,ze9,ybj _ _ _ (by omega)] at h3
   simp only [h1]
   exact⟨_,if_pos h2,h3⟩
  ·rename_i hl;rw [hl]
   obtain⟨ds,h1,h2,h3⟩:=z3j m x _ h
   rw [ze9] at h3
   simp only [h1]
   exact⟨_,if_pos h2,h3⟩
  ·exact h.elim
 ·exact h.elim
def yjg (sz:Nat) (m:Mem) (x:V) (lo hi mx:Option V) (K:V->Prop):Prop:=
 match x with
 | .d (.list n cs)=>zv3 n lo hi fun l h=>
  match mx with
  | none=>K (.d (.list (h-l) (win cs (l*sz) ((h-l)*sz))))
  | some _=>zbd (hi.isSome/\mx.bind asI=hi.bind asI) (K (.d (.list (h-l) (win cs (l*sz) ((h-l)*sz)))))
 | .ref o off len top=>zmd m o fun y=>
  match y with
  | some (.row wr _ sz' n xs)=>zbd (n=top/\off+len<=n/\sz'=sz) (zv3 len lo hi fun l h=>
   match mx with
   | none=>(match wr with
    | true=>K (.ref o (off+l) (h-l) top)
    | false=>K (.d (.list (h-l) (win xs ((off+l)*sz) ((h-l)*sz)))))
   | some _=>False)
  | _=>False
 | .d .nil=>zv3 0 lo hi fun _ _=>
  match mx with
  | none=>K (.d .nil)
  | some _=>False
 | _=>False
theorem yjh (sz:Nat) (m:Mem) (x:V) (lo hi mx:Option V) (K:V->Prop) (h:yjg sz m x lo hi mx K):∃v,zsq sz m x lo hi mx=some v/\K v:=by
 unfold yjg at h
 split at h
 ·obtain⟨p,h1,h2⟩:=zrf _ _ _ _ h
  obtain⟨l,hh⟩:=p
  simp only [zsq,h1]
  cases mx with
  | none=>exact⟨_,if_pos (Or.inl rfl),h2⟩
  | some y=>exact⟨_,if_pos (Or.inr h2.need),h2.go⟩
 ·rename_i o off len top
  rw [zdl] at h
  simp only [zsq]
  split at h
  ·rename_i wr t1 sz1 n1 xs1 hl;rw [hl]
   obtain⟨h0,h⟩:=h
   obtain⟨p,h1,h2⟩:=zrf _ _ _ _ h
   obtain⟨l,hh⟩:=p
   simp only [if_pos h0,h1]
   cases mx with
   | none=>
    cases wr with
    | true=>exact⟨_,by simp,h2⟩
    | false=>exact⟨_,by simp,h2⟩
   | some y=>exact h2.elim
  ·exact h.elim
 ·obtain⟨p,h1,h2⟩:=zrf _ _ _ _ h
  simp only [zsq,h1]
  cases mx with
  | none=>exact⟨_,if_pos rfl,h2⟩
  | some y=>exact h2.elim
 ·exact h.elim
def z57 (sz:Nat) (m:Mem) (x i:V) (K:V->Prop):Prop:=
 match i with
 | .d (.int _ i)=>
  (match x with
  | .d (.list n cs)=>zbd (0<=i/\i<n) (K (.lptr cs (i.toNat*sz)))
  | .ref o off len top=>zmd m o fun y=>
   match y with
   | some (.row _ _ sz' n _)=>zbd (0<=i/\i<len/\n=top/\off+len<=n/\sz'=sz) (K (.ptr o ((off+i.toNat)*sz) top))
   | _=>False
  | _=>False)
 | _=>False
theorem yav (sz:Nat) (m:Mem) (x i:V) (K:V->Prop) (h:z57 sz m x i K):∃v,zmc sz m x i=some v/\K v:=by
 unfold z57 at h
 split at h
 ·split at h
  ·exact⟨_,if_pos h.need,h.go⟩
  ·rw [zdl] at h
   split at h
   ·rename_i hl;simp only [zmc,asI,hl];exact⟨_,if_pos h.need,h.go⟩
   ·exact h.elim
  ·exact h.elim
 ·exact h.elim
def yli (off:Nat) (m:Mem) (v:V) (K:V->Prop):Prop:=
 match v with
 | .lptr cs b=>K (.lptr cs (b+off))
 | .ptr o b top=>zmd m o fun x=>
  match x with
  | some (.cells ..)=>K (.ptr o (b+off) top)
  | some (.row _ _ _ n _)=>zbd (n=top) (K (.ptr o (b+off) top))
  | _=>False
 | _=>False
theorem ydo (off:Nat) (m:Mem) (v:V) (K:V->Prop) (h:yli off m v K):∃r,zgs off m v=some r/\K r:=by
 unfold yli at h
 split at h
 ·exact⟨_,rfl,h⟩
 ·rw [zdl] at h
  split at h
  ·rename_i hl;exact⟨_,by simp only [zgs,z7f,hl];rfl,h⟩
  ·rename_i hl;exact⟨_,by simp only [zgs,z7f,hl,h.need];simp,h.go⟩
  ·exact h.elim
 ·exact h.elim
def yoi (n:Option Nat) (x:V) (off:Nat) (K:V->Prop):Prop:=
 match x with
 | .d (.agg cs)=>z88 n cs off K
 | .agg cs=>yif n cs off K
 | _=>False
theorem ylm (n:Option Nat) (x:V) (off:Nat) (K:V->Prop) (h:yoi n x off K):∃r,yid n x off=some r/\K r:=by
 unfold yoi at h
 split at h
 ·exact zvc _ _ _ _ h
 ·exact z89 _ _ _ _ h
 ·exact h.elim
def yr1 (m:Mem) (k:Kd) (v:V) (K:Nat->Prop):Prop:=
 match k with
 | .str=>(match v with
  | .d (.str s)=>K s.length
  | _=>False)
 | .slc=>(match v with
  | .d (.list n _)=>K n
  | .d .nil=>K 0
  | .ref o _ len top=>zmd m o fun x=>
   match x with
   | some (.row _ _ _ n _)=>zbd (n=top) (K len)
   | _=>False
  | _=>False)
 | .map=>(match v with
  | .mp o=>zmd m o fun x=>
   match x with
   | some (.map es)=>K es.length
   | _=>False
  | _=>False)
 | .cap=>(match v with
  | .d .nil=>K 0
  | _=>False)
theorem yn4 (m:Mem) (k:Kd) (v:V) (K:Nat->Prop) (h:yr1 m k v K):∃n,yf2 m k v=some n/\K n:=by
 unfold yr1 at h
 split at h
 ·split at h
  ·exact⟨_,rfl,h⟩
  ·exact h.elim
 ·split at h
  ·exact⟨_,rfl,h⟩
  ·exact⟨_,rfl,h⟩
  ·rw [zdl] at h
   split at h
   ·rename_i hl;exact⟨_,by simp only [yf2,hl];exact if_pos h.need,h.go⟩
   ·exact h.elim
  ·exact h.elim
 ·split at h
  ·rw [zdl] at h
   split at h
   ·rename_i hl;exact⟨_,by simp only [yf2,hl],h⟩
   ·exact h.elim
  ·exact h.elim
 ·split at h
  ·exact⟨_,rfl,h⟩
  ·exact h.elim
def z8e (m:Mem) (v:V) (K:Nat->List D->Prop):Prop:=
 match v with
 | .d (.list n cs)=>K n cs
 | .d .nil=>K 0 []
 | .ref o off len top=>zmd m o fun x=>
  match x with
  | some (.row _ _ sz n xs)=>zbd (n=top/\off+len<=n) (K len (if off=0/\len=n then xs else win xs (off*sz) (len*sz)))
  | _=>False
 | _=>False
theorem z0l (m:Mem) (v:V) (K:Nat->List D->Prop) (h:z8e m v K):∃p,z0k m v=some p/\K p.1 p.2:=by
 unfold z8e at h
 split at h
 ·exact⟨_,rfl,h⟩
 ·exact⟨_,rfl,h⟩
 ·rw [zdl] at h
  split at h
  ·rename_i hl;exact⟨_,by simp only [z0k,hl];exact if_pos h.need,h.go⟩
  ·exact h.elim
 ·exact h.elim
def zt6 (cx:Cx) (slot:Nat) (r:zdv) (m:Mem) (k:Nat) (ds:List D) (s:V) (K:V->Mem->Prop):Prop:=
 match s with
 | .ref o off len top=>zmd m o fun x=>
  match x with
  | some (.row wr t sz n xs)=>
   zbd (off=0/\len=n/\n=top/\t=r.t/\sz=r.sz/\ds.length=k*sz/\(n+k)*r.by_<=140737488355328/\n+k<=140737488355328)
    (zy5 m o (.row wr t sz (n+k) (xs++ds)) fun m'=>K (.ref o 0 (n+k) (n+k)) m')
  | _=>False
 | .d .nil=>zbd (k≠0/\ds.length=k*r.sz/\k*r.by_<=140737488355328/\k<=140737488355328) (yhr cx slot m fun i=>zy5 m i (.row r.wr r.t r.sz k ds) fun m'=>K (.ref i 0 k k) m')
 | _=>False
theorem zst (cx:Cx) (slot:Nat) (r:zdv) (m:Mem) (k:Nat) (ds:List D) (s:V) (K:V->Mem->Prop) (h:zt6 cx slot r m k ds s K):
  ∃p,zo6 cx slot r m (some (k,ds)) s=some p/\K p.1 p.2:=by
 unfold zt6 at h
 split at h
 ·rw [zdl] at h
  split at h
  ·rename_i hl
   obtain⟨⟨h1,h2,h3,h4,h5,h6,h7,h8⟩,h9⟩:=h
   rw [ze9] at h9
   refine⟨(_,_),?_,h9⟩
   simp only [zo6,hl]
   exact if_pos ⟨h1,h2,h3,h4,h5,h6,by simp [z6y,h7,h8]⟩
  ·exact h.elim
 ·obtain⟨⟨h1,h2,h3,h4⟩,h9⟩:=h
  rw [zof,ze9] at h9
  refine⟨(_,_),?_,h9⟩
  simp only [zo6]
  exact if_pos ⟨h1,h2,by simp [z6y,h3,h4]⟩
 ·exact h.elim
def eqB:D->D->(Prop->Prop)->Prop
 | .int k a,.int l b,K=>(match decide (k=l) with
  | true=>K (a=b)
  | false=>False)
 | .bool a,.bool b,K=>K (a=b)
 | .str a,.str b,K=>K (a=b)
 | _,_,_=>False
def yns:List D->List D->(Prop->Prop)->Prop
 | [],[],K=>K True
 | [x],[y],K=>eqB x y K
 | x::x2::r,y::y2::s,K=>eqB x y fun p=>yns (x2::r) (y2::s) fun q=>K (p/\q)
 | _,_,_=>False
theorem ymw (x y:D) (K:Prop->Prop) (h:eqB x y K):∃b p,eqD x y=some b/\(b=true↔p)/\K p:=by
 unfold eqB at h
 split at h
 ·split at h
  ·rename_i a _ b _ e
   exact⟨decide (a=b),a=b,by simp only [eqD];exact if_pos (of_decide_eq_true e),by simp,h⟩
  ·exact h.elim
 ·rename_i a b
  exact⟨a==b,a=b,rfl,by simp,h⟩
 ·rename_i a b
  exact⟨a==b,a=b,rfl,by simp,h⟩
 ·exact h.elim
theorem ygs:∀(xs ys:List D) (K:Prop->Prop),yns xs ys K->∃b p,eqL xs ys=some b/\(b=true↔p)/\K p
 | [],[],_,h=>⟨true,True,rfl,by simp,h⟩
 | [x],[y],K,h=>by
  obtain⟨a,p,h1,h2,h3⟩:=ymw x y _ h
  exact⟨a&&true,p,by simp only [eqL,h1],by simpa using h2,h3⟩
 | x::x2::r,y::y2::s,K,h=>by
  obtain⟨a,p,h1,h2,h3⟩:=ymw x y _ h
  obtain⟨b,q,h4,h5,h6⟩:=ygs (x2::r) (y2::s) _ h3
  refine⟨a&&b,p/\q,?_,by simp [h2,h5],h6⟩
  rw [eqL,h1,h4]
 | [],_::_,_,h=>(by simp only [yns] at h)
 | _::_,[],_,h=>(by simp only [yns] at h)
 | [_],_::_::_,_,h=>(by simp only [yns] at h)
 | _::_::_,[_],_,h=>(by simp only [yns] at h)
def yry (ks:Option (List KK)) (x y:V) (K:Bool->Prop):Prop:=
 match ks with
 | none=>
  (match x,y with
  | .d (.bool a),.d (.bool b)=>K (a==b)
  | _,_=>False)
 | some ks=>
  (match x,y with
  | .d (.agg a),.d (.agg b)=>
   (match zcy ks a&&zcy ks b with
   | true=>yns a b fun p=>Cmp p (K true) (K false)
   | false=>False)
  | _,_=>False)
theorem ynu (ks:Option (List KK)) (x y:V) (K:Bool->Prop) (h:yry ks x y K):∃b,eqV ks x y=some b/\K b:=by
 unfold yry at h
 split at h
 ·split at h
  ·exact⟨_,rfl,h⟩
  ·exact h.elim
 ·split at h
  ·split at h
   ·rename_i hk
    obtain⟨b,p,h1,h2,h3⟩:=ygs _ _ _ h
    refine⟨b,by simp only [eqV];rw [if_pos hk];exact h1,?_⟩
    cases b with
    | true=>exact h3.yes (h2.1 rfl)
    | false=>exact h3.no fun hp=>Bool.noConfusion (h2.2 hp)
   ·exact h.elim
  ·exact h.elim
def ynr (p:Prop) (K:D->Prop):Prop:=Cmp p (K (.bool true)) (K (.bool false))
theorem ygk {p:Prop} [Decidable p] {K:D->Prop} (h:ynr p K):K (.bool (decide p)):=by
 by_cases hp:p
 ·have:=h.yes hp;simpa [hp] using this
 ·have:=h.no hp;simpa [hp] using this
def yoa (p:Prop) (K:D->Prop):Prop:=Cmp p (K (.bool false)) (K (.bool true))
theorem ydr {p:Prop} [Decidable p] {K:D->Prop} (h:yoa p K):K (.bool (!decide p)):=by
 by_cases hp:p
 ·have:=h.yes hp;simpa [hp] using this
 ·have:=h.no hp;simpa [hp] using this
def yac (op:BinOp) (k:IntKind) (a b:Int) (K:D->Prop):Prop:=
 match op with
 | .add=>Wr k (a+b) fun n=>K (.int k n)
 | .sub=>Wr k (a-b) fun n=>K (.int k n)
 | .mul=>Wr k (a*b) fun n=>K (.int k n)
 | .quo=>Quo k a b fun n=>K (.int k n)
 | .rem=>Rem a b fun n=>K (.int k n)
 | .and=>K (.int k (k.wrap ((BitVec.ofInt k.bits a&&&BitVec.ofInt k.bits b).toNat)))
 | .or=>K (.int k (k.wrap ((BitVec.ofInt k.bits a|||BitVec.ofInt k.bits b).toNat)))
 | .xor=>K (.int k (k.wrap ((BitVec.ofInt k.bits a^^^BitVec.ofInt k.bits b).toNat)))
 | .andNot=>K (.int k (k.wrap ((BitVec.ofInt k.bits a&&&~~~ BitVec.ofInt k.bits b).toNat)))
 | .eql=>ynr (a=b) K
 | .neq=>yoa (a=b) K
 | .lss=>ynr (a<b) K
 | .leq=>ynr (a<=b) K
 | .gtr=>ynr (b<a) K
 | .geq=>ynr (b<=a) K
 | _=>False
theorem yex (op:BinOp) (k:IntKind) (a b:Int) (K:D->Prop) (h:yac op k a b K):∃d,zzp op k a b=some d/\K d:=by
 cases op<;>simp only [yac] at h<;>simp only [zzp]
 all_goals first
  | exact⟨_,rfl,h.go⟩
  | exact⟨_,if_neg h.ne,h.go⟩
  | exact⟨_,rfl,h⟩
  | exact⟨_,rfl,ygk h⟩
  | exact⟨_,rfl,ydr h⟩
def yad (op:BinOp) (a b:List UInt8) (K:D->Prop):Prop:=
 match op with
 | .add=>zbd (a.length+b.length<=zmy) (K (.str (a++b)))
 | .eql=>ynr (a=b) K
 | .neq=>yoa (a=b) K
 | .lss=>K (.bool (zax a b))
 | .leq=>K (.bool (zax a b||a==b))
 | .gtr=>K (.bool (!(zax a b||a==b)))
 | .geq=>K (.bool (!zax a b))
 | _=>False
theorem yey (op:BinOp) (a b:List UInt8) (K:D->Prop) (h:yad op a b K):∃d,z3g op a b=some d/\K d:=by
 have hb:(a==b)=decide (a=b):=by by_cases e:a=b<;>simp [e]
 cases op<;>simp only [yad] at h<;>simp only [z3g]
 all_goals first
  | exact⟨_,if_pos h.need,h.go⟩
  | exact⟨_,rfl,by rw [hb];exact ygk h⟩
  | exact⟨_,rfl,by rw [hb];exact ydr h⟩
  | exact⟨_,rfl,h⟩
def yrs (op:BinOp) (x y:V) (K:D->Prop):Prop:=
 match x,y with
 | .d (.int k a),.d (.int l b)=>
  (match op with
  | .shl=>zbd (0<=b) (Wr k (a*2^(min b.toNat k.bits)) fun n=>K (.int k n))
  | .shr=>zbd (0<=b) (K (.int k (a.fdiv (2^(min b.toNat k.bits)))))
  | _=>(match decide (k=l) with
   | true=>yac op k a b K
   | false=>False))
 | .d (.str a),.d (.str b)=>yad op a b K
 | _,_=>False
theorem ynl (op:BinOp) (x y:V) (K:D->Prop) (h:yrs op x y K):∃d,ypf op x y=some d/\K d:=by
 unfold yrs at h
 split at h
 ·simp only [ypf]
  split at h
  ·exact⟨_,if_pos h.need,h.go.go⟩
  ·exact⟨_,if_pos h.need,h.go⟩
  ·rename_i n1 n2
   split at h
   ·rename_i e
    obtain⟨d,h1,h2⟩:=yex _ _ _ _ _ h
    refine⟨d,?_,h2⟩
    cases op<;>first |exact(if_pos (of_decide_eq_true e)).trans h1|exact absurd rfl n1|exact absurd rfl n2
   ·exact h.elim
 ·exact yey _ _ _ _ h
 ·exact h.elim
def zu3 (mx:Bool) (k:IntKind):Int->List V->(D->Prop)->Prop
 | a,[],K=>K (.int k a)
 | a,.d (.int _ b)::r,K=>
  (match mx with
  | true=>zu3 mx k (if b>a then b else a) r K
  | false=>zu3 mx k (if b<a then b else a) r K)
 | _,_::_,_=>False
def ya4 (mx:Bool) (l:List V) (K:D->Prop):Prop:=
 match l with
 | .d (.int k a)::r=>zu3 mx k a r K
 | _=>False
theorem ztq (mx:Bool) (k:IntKind):∀(l:List V) (a:Int) (K:D->Prop),zu3 mx k a l K->∃d,zpm.go mx k a l=some d/\K d
 | [],a,K,h=>⟨.int k a,rfl,h⟩
 | v::r,a,K,h=>by
  unfold zu3 at h
  split at h
  ·rename_i e;cases e
  ·rename_i _ _ _ a' b r' K' e
   obtain⟨rfl,rfl⟩:=(List.cons.injEq ..).mp e
   simp only [zpm.go]
   cases mx with
   | true=>exact ztq true k r _ _ h
   | false=>exact ztq false k r _ _ h
  ·exact h.elim
theorem ye8 (mx:Bool) (l:List V) (K:D->Prop) (h:ya4 mx l K):∃d,zpm mx l=some d/\K d:=by
 unfold ya4 at h
 split at h
 ·exact ztq mx _ _ _ K h
 ·exact h.elim
end Go.Evl
namespace Go.Evl
def yn5 (nx:Nat):List Id->Bool
 | []=>true
 | i::r=>match Nat.blt i.lv nx with
  | true=>yn5 nx r
  | false=>false
theorem z05 (nx:Nat):∀(l:List Id),yn5 nx l=zig nx l
 | []=>rfl
 | i::r=>by
  simp only [yn5]
  cases h:Nat.blt i.lv nx with
  | true=>
   have:i.lv<nx:=Nat.le_of_ble_eq_true h
   simp only [z05 nx r]
   simp [zig,this]
  | false=>
   have:¬i.lv<nx:=fun hh=>by
    have:=Nat.ble_eq_true_of_le (show i.lv+1<=nx from hh)
    simp only [Nat.blt] at h
    rw [this] at h;cases h
   simp [zig,this]
def ya1:Mem->(List Id->Prop)->Prop
 | [],K=>K []
 | (i,_)::r,K=>ya1 r fun l=>K (i::l)
theorem zuz:∀(m:Mem) (K:List Id->Prop),ya1 m K=K (znr m)
 | [],_=>rfl
 | (i,o)::r,K=>by simp only [ya1,zuz r];rfl
def z3f (nx:Nat):Mem->(Mem->Prop)->Prop
 | [],K=>K []
 | (i,o)::r,K=>match Nat.blt i.lv nx with
  | true=>z3f nx r fun r'=>K ((i,o)::r')
  | false=>z3f nx r K
theorem zui (nx:Nat):∀(m:Mem) (K:Mem->Prop),z3f nx m K=K (zel nx m)
 | [],_=>rfl
 | (i,o)::r,K=>by
  simp only [z3f]
  cases h:Nat.blt i.lv nx with
  | true=>
   have:i.lv<nx:=Nat.le_of_ble_eq_true h
   simp only [zui nx r]
   simp [zel,this]
  | false=>
   have:¬i.lv<nx:=fun hh=>by
    have:=Nat.ble_eq_true_of_le (show i.lv+1<=nx from hh)
    simp only [Nat.blt] at h
    rw [this] at h;cases h
   simp only [zui nx r]
   simp [zel,this]
def zv0 (cx:Cx) (slot:Nat) (imm:Bool) (v:V) (m':Mem) (K:V->Mem->Prop):Prop:=z3f cx.nx m' fun old=>
 match yn5 cx.nx (idsAll old) with
 | true=>(match imm with
  | true=>(match (ids v).all fun i=>Nat.ble cx.nx i.lv with
   | true=>ymg m' v fun r=>K r old
   | false=>False)
  | false=>zrv (settle cx slot cx.nx old m' v) fun p=>K p.1 p.2)
 | false=>False
def callW (E:Oracle) (cx:Cx) (slot:Nat) (shared imm:Bool) (f:V) (args:List V) (m:Mem) (K:V->Mem->Prop):Prop:=
 match shared with
 | false=>(match f with
  | .fn f first caps=>zuv false m (first ++args++caps) fun ds=>ype ds fun vs=>
   (match imm with
   | true=>zah E f vs fun v=>K v m
   | false=>zb8 E f vs cx slot m K)
  | _=>False)
 | true=>ya1 m fun ks=>(match yn5 cx.nx ks with
  | true=>(match f with
   | .fn f first caps=>In E cx.nx f (first ++args++caps) m fun v m'=>zv0 cx slot imm v m' K
   | .yld o=>Rnd E cx.nx o args m fun v m'=>zv0 cx slot imm v m' K
   | _=>False)
  | false=>False)
section
variable {E : Oracle}
theorem z5a {cx:Cx} {slot:Nat} {imm:Bool} {v:V} {m':Mem} {K:V->Mem->Prop} (h:zv0 cx slot imm v m' K):
  ∃p,(if zig cx.nx (idsAll (zel cx.nx m')) then znk cx slot cx.nx imm (zel cx.nx m') m' v else none)=some p/\K p.1 p.2:=by
 simp only [zv0,zui,z05] at h
 split at h
 ·rename_i hl
  rw [if_pos hl]
  split at h
  ·split at h
   ·rename_i ha
    obtain⟨r,h1,h2⟩:=yel _ _ _ h
    refine⟨(r,zel cx.nx m'),?_,h2⟩
    have ha':((ids v).all fun i=>decide (cx.nx<=i.lv))=true:=by
     rw [List.all_eq_true] at ha ⊢
     intro i hi
     simpa using Nat.le_of_ble_eq_true (ha i hi)
    simp only [znk,if_true,ha',h1]
    rfl
   ·exact h.elim
  ·obtain⟨p,h1,h2⟩:=h.got
   exact⟨p,by simp only [znk];exact h1,h2⟩
 ·exact h.elim
theorem callW_ok {cx:Cx} {slot:Nat} {shared imm:Bool} {f:V} {args:List V} {m:Mem} {K:V->Mem->Prop} (h:callW E cx slot shared imm f args m K):
  ∃p,zkd E cx slot shared imm f args m=some p/\K p.1 p.2:=by
 unfold callW at h
 split at h
 ·split at h
  ·rename_i f first caps
   obtain⟨ds,h1,h2⟩:=zpg _ _ _ _ h
   rw [z45] at h2
   simp only [zkd,h1]
   split at h2
   ·obtain⟨r,⟨v,m',h3,h4⟩,h5⟩:=h2.got
    refine⟨(r,m),?_,h5⟩
    have hall:((ids v).all fun i=>decide (0<=i.lv))=true:=by simp
    simp only [h3,znk,hall,h4]
    rfl
   ·obtain⟨v,m',p,h3,h4,h5⟩:=h2.got
    refine⟨p,?_,h5⟩
    simp only [h3,znk,h4]
    rfl
  ·exact h.elim
 ·simp only [zuz,z05] at h
  split at h
  ·rename_i hl
   simp only [zkd,if_true,hl]
   split at h
   ·obtain⟨v,m',h1,h2⟩:=h.got
    simp only [zhx,h1]
    exact z5a h2
   ·obtain⟨v,m',h1,h2⟩:=h.got
    simp only [zhx,h1]
    exact z5a h2
   ·exact h.elim
  ·exact h.elim
structure zht (key:D) (es:List (D×V)) (K:Option V->Prop):Prop where
 got:∃r,zpf key es=some r/\K r
structure zsf (key:D) (x:V) (es:List (D×V)) (K:List (D×V)->Prop):Prop where
 got:∃r,setE key x es=some r/\K r
structure zsr (s:List UInt8) (pos:Nat) (some_:Int->Nat->Prop) (none_:Prop):Prop where
 yes:pos<s.length->some_ (Utf8.decode ⟨s.toArray⟩ pos).1 (Utf8.decode ⟨s.toArray⟩ pos).2
 no:¬pos<s.length->none_
def ya2 (kk:KK) (zero:D) (ok:Bool) (m:Mem) (x key:V) (K:V->Prop):Prop:=
 match key with
 | .d key=>
  (match zke kk key with
  | true=>(match x with
   | .mp o=>zmd m o fun ob=>
    match ob with
    | some (.map es)=>zht key es fun r=>K (ym5 zero ok r)
    | _=>False
   | .d .nilm=>K (ym5 zero ok none)
   | _=>False)
  | false=>False)
 | _=>False
theorem ye6 {kk:KK} {zero:D} {ok:Bool} {m:Mem} {x key:V} {K:V->Prop} (h:ya2 kk zero ok m x key K):∃v,zpk kk zero ok m x key=some v/\K v:=by
 unfold ya2 at h
 split at h
 ·split at h
  ·rename_i hk
   simp only [zpk,if_pos hk]
   split at h
   ·rw [zdl] at h
    split at h
    ·rename_i hl
     obtain⟨r,h1,h2⟩:=h.got
     exact⟨_,by simp only [hl,h1];rfl,h2⟩
    ·exact h.elim
   ·exact⟨_,rfl,h⟩
   ·exact h.elim
  ·exact h.elim
 ·exact h.elim
def yr3 (m:Mem) (x:V) (K:Nat->Bool->Prop):Prop:=
 match x with
 | .d .nilp=>K 0 true
 | .d .nilf=>K 4 true
 | .d .nili=>K 1 true
 | .d (.ifc true)=>K 1 false
 | .d .nilm=>K 3 true
 | .d (.fn _)=>K 4 false
 | .d (.list n _)=>zbd (n≠0) (K 2 false)
 | .fn .. =>K 4 false
 | .lptr .. =>K 0 false
 | .ptr o _ top=>zmd m o fun ob=>
  match ob with
  | some (.cells ..)=>K 0 false
  | some (.row _ _ _ n _)=>zbd (n=top) (K 0 false)
  | _=>False
 | .ref o off len top=>zmd m o fun ob=>
  match ob with
  | some (.row _ _ _ n _)=>zbd (n=top/\off+len<=n/\len≠0) (K 2 false)
  | _=>False
 | _=>False
theorem yob {m:Mem} {x:V} {K:Nat->Bool->Prop} (h:yr3 m x K):∃k b,yhs m x=some (k,b)/\K k b:=by
 unfold yr3 at h
 split at h
 ·exact⟨_,_,rfl,h⟩
 ·exact⟨_,_,rfl,h⟩
 ·exact⟨_,_,rfl,h⟩
 ·exact⟨_,_,rfl,h⟩
 ·exact⟨_,_,rfl,h⟩
 ·exact⟨_,_,rfl,h⟩
 ·rename_i n cs
  cases n with
  | zero=>exact absurd rfl h.need
  | succ n=>exact⟨_,_,rfl,h.go⟩
 ·exact⟨_,_,rfl,h⟩
 ·exact⟨_,_,rfl,h⟩
 ·rw [zdl] at h
  split at h
  ·rename_i hl;exact⟨_,_,by simp only [yhs,z7f,hl];rfl,h⟩
  ·rename_i hl;exact⟨_,_,by simp [yhs,z7f,hl,h.need],h.go⟩
  ·exact h.elim
 ·rw [zdl] at h
  split at h
  ·rename_i hl;exact⟨_,_,by simp only [yhs,hl];exact if_pos h.need,h.go⟩
  ·exact h.elim
 ·exact h.elim
def z6c (kk:KK) (m:Mem) (x key v:V) (K:V->Mem->Prop):Prop:=
 match x,key with
 | .mp o,.d key=>zmd m o fun ob=>
  (match ob with
  | some (.map es)=>(match zke kk key&&(cellsOf v).isSome with
   | true=>zsf key v es fun es'=>zy5 m o (.map es') fun m'=>K .skip m'
   | false=>False)
  | _=>False)
 | _,_=>False
theorem z34 {kk:KK} {m:Mem} {x key v:V} {K:V->Mem->Prop} (h:z6c kk m x key v K):∃m',zpl kk m x key v=some m'/\K .skip m':=by
 unfold z6c at h
 split at h
 ·rw [zdl] at h
  split at h
  ·rename_i hl
   split at h
   ·rename_i hb
    obtain⟨r,h1,h2⟩:=h.got
    rw [ze9] at h2
    exact⟨_,by simp only [zpl,hl,if_pos hb,h1];rfl,h2⟩
   ·exact h.elim
  ·exact h.elim
 ·exact h.elim
structure zj6 (E:Oracle) (f:V) (args:List V) (m:Mem) (K:V->Prop):Prop where
 got:∃v,zup E f args m=some v/\K v
structure zqp (E:Oracle) (imm:Bool) (f:V) (args:List V) (m:Mem) (K:V->Mem->Prop):Prop where
 got:∃v m',zsj E imm f args m=some (v,m')/\K v m'
def zkz (E:Oracle) (cx:Cx) (slot:Nat) (e:Env) (m:Mem) (op:COp) (K:V->Mem->Prop):Prop:=
 match op with
 | .mv x=>opK e x fun v=>K v m
 | .ownNil r=>yhr cx slot m fun i=>zy5 m i (.row r.wr r.t r.sz 0 []) fun m'=>K (.ref i 0 0 0) m'
 | .pick c a b=>opK e c fun c=>
  match c with
  | .d (.bool t)=>Br t (opK e a fun v=>K v m) (opK e b fun v=>K v m)
  | _=>False
 | .alloc t cs=>yay cx slot cs m fun vs m1=>yhr cx slot m1 fun i=>zy5 m1 i (.cells t vs) fun m2=>K (.ptr i 0 0) m2
 | .box t x=>opK e x fun v=>z7z v fun cs=>yhr cx slot m fun i=>zy5 m i (.cells t cs) fun m2=>K (.ptr i 0 0) m2
 | .build zero parts=>yay cx slot zero m fun vs m1=>ydu e parts fun ps=>ynw vs ps fun cs=>yrc cs fun v=>K v m1
 | .mkList sz n parts=>z95 e parts fun vs=>z8u sz m vs fun ds=>K (.d (.list n ds)) m
 | .mkListD sz n parts=>z95 e parts fun vs=>Chk (yg9 vs) (z8u sz [] vs fun ds=>K (.d (.list n ds)) m)
 | .mkRow r n parts=>z95 e parts fun vs=>z8u r.sz m vs fun ds=>yhr cx slot m fun i=>zy5 m i (.row r.wr r.t r.sz n ds) fun m2=>K (.ref i 0 n n) m2
 | .load n a=>opK e a fun a=>yle n m a fun v=>K v m
 | .store n a x=>opK e a fun a=>opK e x fun x=>yeg n m a x fun m'=>K .skip m'
 | .nilCheck x=>opK e x fun v=>
  match v with
  | .fn f a b=>K (.fn f a b) m
  | .d (.fn f)=>K (.fn f [] []) m
  | .lptr cs o=>K (.lptr cs o) m
  | .ptr o off top=>zmd m o fun ob=>
   match ob with
   | some (.cells ..)=>K (.ptr o off top) m
   | some (.row _ _ _ n _)=>zbd (n=top) (K (.ptr o off top) m)
   | _=>False
  | _=>False
 | .bin op x y=>opK e x fun x=>opK e y fun y=>yrs op x y fun d=>K (.d d) m
 | .eqv ks neg x y=>opK e x fun x=>opK e y fun y=>yry ks x y fun b=>
  match neg with
  | true=>K (.d (.bool (!b))) m
  | false=>K (.d (.bool b)) m
 | .un op x=>opK e x fun x=>
  match op,x with
  | .not,.d (.bool b)=>K (.d (.bool (!b))) m
  | .neg,.d (.int k n)=>Wr k (0-n) fun n=>K (.d (.int k n)) m
  | _,_=>False
 | .conv k x=>opK e x fun x=>
  match x with
  | .d (.int _ n)=>Wr k n fun n=>K (.d (.int k n)) m
  | _=>False
 | .mkFunc f first caps=>z95 e first fun a=>z95 e caps fun b=>K (.fn f a b) m
 | .sliceS x lo hi=>opK e x fun x=>opK? e lo fun lo=>opK? e hi fun hi=>
  match x with
  | .d (.str s)=>zv3 s.length lo hi fun l h=>K (.d (.str (win s l (h-l)))) m
  | _=>False
 | .slice sz x lo hi mx=>opK e x fun x=>opK? e lo fun lo=>opK? e hi fun hi=>opK? e mx fun mx=>yjg sz m x lo hi mx fun v=>K v m
 | .fieldAddr off x=>opK e x fun x=>yli off m x fun v=>K v m
 | .field off n x=>opK e x fun x=>yoi n x off fun v=>K v m
 | .idxAddr sz x i=>opK e x fun x=>opK e i fun i=>z57 sz m x i fun v=>K v m
 | .idxAddrA len sz x i=>opK e x fun x=>opK e i fun i=>
  match i with
  | .d (.int _ i)=>zbd (0<=i/\i<len) (yli (i.toNat*sz) m x fun v=>K v m)
  | _=>False
 | .idxS x i=>opK e x fun x=>opK e i fun i=>
  match x,i with
  | .d (.str s),.d (.int _ i)=>zbd (0<=i) (zg2 s i.toNat fun b=>K (.d (.int .u8 b.toNat)) m)
  | _,_=>False
 | .mkMap=>yhr cx slot m fun i=>zy5 m i (.map []) fun m'=>K (.mp i) m'
 | .lookup kk zero ok x key=>opK e x fun x=>opK e key fun key=>ya2 kk zero ok m x key fun v=>K v m
 | .mapSet kk x key v=>opK e x fun x=>opK e key fun key=>opK e v fun v=>z6c kk m x key v K
 | .mapSetR kk x key v rs=>opK e x fun x=>opK e key fun key=>opK e v fun v=>ye2 e rs fun vs=>Chk (yco x vs) (z6c kk m x key v K)
 | .callD f args=>opK e f fun f=>z95 e args fun vs=>
  match zqo f with
  | .fn g [] []=>Chk (yg9 vs) (callW E cx slot false true (.fn g [] []) vs m K)
  | _=>False
 | .callQ f args=>opK e f fun f=>z95 e args fun vs=>zj6 E (zqo f) vs m fun v=>K v m
 | .callU imm f args=>opK e f fun f=>z95 e args fun vs=>zqp E imm (zqo f) vs m K
 | .callK imm f args=>opK e f fun f=>z95 e args fun vs=>callW E cx slot true imm (zqo f) vs m fun v m'=>Chk (leM m m' m) (K v m)
 | .callN f args=>opK e f fun f=>z95 e args fun vs=>
  match zqo f with
  | .fn g [] []=>Chk (yg9 vs) (callW E cx slot false false (.fn g [] []) vs m K)
  | _=>False
 | .nilEq kd neg x=>opK e x fun x=>yr3 m x fun k b=>Chk (Nat.beq k kd) (K (.d (.bool (if neg then !b else b))) m)
 | .loadD n a=>opK e a fun a=>
  match a with
  | .lptr cs off=>z88 n cs off fun v=>K v m
  | _=>False
 | .idxAddrD sz x i=>opK e x fun x=>opK e i fun i=>
  match x with
  | .d (.list n cs)=>(match i with
   | .d (.int _ i)=>zbd (0<=i/\i<n) (K (.lptr cs (i.toNat*sz)) m)
   | _=>False)
  | _=>False
 | .appendIn r s x=>opK e s fun s=>opK e x fun x=>z8e m x fun k ds=>
  match s with
  | .ref o off len top=>zmd m o fun ob=>
   match ob with
   | some (.row true t sz n xs)=>zbd (n=top/\off+len+k<=n/\off+len<n/\t=r.t/\sz=r.sz/\ds.length=k*sz)
    (zy5 m o (.row true t sz n (patch xs ((off+len)*sz) ds)) fun m'=>K (.ref o off (len+k) top) m')
   | _=>False
  | _=>False
 | .rangeS x=>opK e x fun x=>
  match x with
  | .d (.str s)=>yhr cx slot m fun i=>zy5 m i (.iter s 0) fun m'=>K (.it i) m'
  | _=>False
 | .nextS x=>opK e x fun x=>
  match x with
  | .it o=>zmd m o fun ob=>
   match ob with
   | some (.iter s pos)=>zsr s pos (fun c w=>zy5 m o (.iter s (pos+w)) fun m'=>K (.tup [.d (.bool true),.d (.int .i64 pos),.d (.int .i32 c)]) m') (K (.tup [.d (.bool false)]) m)
   | _=>False
  | _=>False
 | .extract x i=>opK e x fun x=>
  match x with
  | .tup vs=>yer vs i fun v=>K v m
  | _=>False
 | .call shared imm f args=>opK e f fun f=>z95 e args fun vs=>callW E cx slot shared imm (zqo f) vs m K
 | .storeR n a x rs=>opK e a fun a=>opK e x fun x=>ye2 e rs fun vs=>Chk (ycp a vs) (yeg n m a x fun m'=>K .skip m')
 | .bad=>False
 | .appendZ r zero s n=>opK e s fun s=>opK e n fun n=>
  match s,n with
  | .d .nil,.d (.int .i64 n)=>zbd (0<n/\zero.length=r.sz/\n.toNat*r.by_<=140737488355328/\n.toNat<=140737488355328)
   (yhr cx slot m fun i=>zy5 m i (.row r.wr r.t r.sz n.toNat (List.replicate n.toNat zero).flatten) fun m'=>K (.ref i 0 n.toNat n.toNat) m')
  | _,_=>False
 | .callB imm f args b=>∃p,zn8 (fun m=>zkd E cx slot true imm (zqo (f.ev e)) (evs e args) m) m (get e b)=some p/\K p.1 p.2
 | .callR imm f args rs=>opK e f fun f=>z95 e args fun vs=>ye2 e rs fun ws=>callW E cx slot true imm (zqo f) vs m fun v m'=>Chk (z8s m m' ws) (K v m')
 | .len k x=>opK e x fun x=>yr1 m k x fun n=>K (.d (.int .i64 (n:Int))) m
 | .append r s x=>opK e s fun s=>opK e x fun x=>z8e m x fun k ds=>zt6 cx slot r m k ds s K
 | .appendF r s x=>opK e s fun s=>opK e x fun x=>z8e m x fun k ds=>zt6 cx slot r m k ds s fun v m'=>zho false m' v fun d=>K (.d d) m'
 | .strB x=>opK e x fun x=>
  match x with
  | .d (.list 1 [.int .u8 n])=>K (.d (.str [UInt8.ofNat n.toNat])) m
  | _=>False
 | .appendS r s x=>opK e s fun s=>opK e x fun x=>
  match x,s with
  | .d (.str b),.ref o off len top=>zt6 cx slot r m b.length (ycq b) (.ref o off len top) K
  | _,_=>False
 | .minmax mx args=>z95 e args fun vs=>ya4 mx vs fun d=>K (.d d) m
theorem ycf {cx:Cx} {slot:Nat} {e:Env} {m:Mem} {op:COp} {K:V->Mem->Prop} (h:zkz E cx slot e m op K):∃p,zdg E cx slot e m op=some p/\K p.1 p.2:=by
 cases op with
 | mv x=>simp only [zkz,zct] at h;exact⟨(_,_),rfl,h⟩
 | ownNil r=>simp only [zkz,zof,ze9] at h;exact⟨(_,_),rfl,h⟩
 | pick c a b=>
  simp only [zkz,zct] at h
  simp only [zdg]
  split at h
  ·rename_i t ht
   rw [ht]
   refine⟨(if t then a.ev e else b.ev e,m),rfl,?_⟩
   cases t with
   | true=>exact h.yes rfl
   | false=>exact h.no rfl
  ·exact h.elim
 | alloc t cs=>simp only [zkz,zyq,zof,ze9] at h;exact⟨(_,_),rfl,h⟩
 | box t x=>
  simp only [zkz,zct] at h
  obtain⟨cs,h1,h2⟩:=z0b _ _ h
  simp only [zof,ze9] at h2
  exact⟨(_,_),by simp only [zdg,h1],h2⟩
 | build zero parts=>
  simp only [zkz,zyq,z87] at h
  obtain⟨cs,h1,h2⟩:=ycz _ _ _ h
  rw [ygb] at h2
  exact⟨(_,_),by simp only [zdg,h1];rfl,h2⟩
 | mkList sz n parts=>
  simp only [zkz,zkk] at h
  obtain⟨cs,h1,h2⟩:=zu1 _ _ _ _ h
  exact⟨(_,_),by simp only [zdg,h1];rfl,h2⟩
 | mkListD sz n parts=>
  simp only [zkz,zkk] at h
  obtain⟨hc,h⟩:=h
  obtain⟨cs,h1,h2⟩:=zu1 _ _ _ _ h
  exact⟨(_,_),by simp only [zdg,hc,if_true,h1];rfl,h2⟩
 | mkRow r n parts=>
  simp only [zkz,zkk] at h
  obtain⟨cs,h1,h2⟩:=zu1 _ _ _ _ h
  simp only [zof,ze9] at h2
  exact⟨(_,_),by simp only [zdg,h1];rfl,h2⟩
 | load n a=>
  simp only [zkz,zct] at h
  obtain⟨v,h1,h2⟩:=ydj _ _ _ _ h
  exact⟨(_,_),by simp only [zdg,h1];rfl,h2⟩
 | store n a x=>
  simp only [zkz,zct] at h
  obtain⟨v,h1,h2⟩:=z9z _ _ _ _ _ h
  exact⟨(_,_),by simp only [zdg,h1];rfl,h2⟩
 | nilCheck x=>
  simp only [zkz,zct] at h
  simp only [zdg]
  split at h
  ·rename_i hx;rw [hx];exact⟨(_,_),rfl,h⟩
  ·rename_i hx;rw [hx];exact⟨(_,_),rfl,h⟩
  ·rename_i hx;rw [hx];exact⟨(_,_),rfl,h⟩
  ·rename_i hx;rw [hx]
   rw [zdl] at h
   split at h
   ·rename_i hl;exact⟨(_,_),by simp only [z7f,hl];rfl,h⟩
   ·rename_i hl;exact⟨(_,_),by simp [z7f,hl,h.need],h.go⟩
   ·exact h.elim
  ·exact h.elim
 | bin op x y=>
  simp only [zkz,zct] at h
  obtain⟨v,h1,h2⟩:=ynl _ _ _ _ h
  exact⟨(_,_),by simp only [zdg,h1];rfl,h2⟩
 | eqv ks neg x y=>
  simp only [zkz,zct] at h
  obtain⟨v,h1,h2⟩:=ynu _ _ _ _ h
  cases neg<;>exact⟨(_,_),by simp only [zdg,h1];rfl,h2⟩
 | un op x=>
  simp only [zkz,zct] at h
  simp only [zdg]
  split at h
  ·rename_i hx;rw [hx];exact⟨(_,_),rfl,h⟩
  ·rename_i hx;rw [hx];exact⟨(_,_),rfl,h.go⟩
  ·exact h.elim
 | conv k x=>
  simp only [zkz,zct] at h
  simp only [zdg]
  split at h
  ·rename_i hx;rw [hx];exact⟨(_,_),rfl,h.go⟩
  ·exact h.elim
 | mkFunc f first caps=>simp only [zkz,zkk] at h;exact⟨(_,_),rfl,h⟩
 | sliceS x lo hi=>
  simp only [zkz,zct,opK?_eq] at h
  simp only [zdg]
  split at h
  ·rename_i hx;rw [hx]
   obtain⟨p,h1,h2⟩:=zrf _ _ _ _ h
   obtain⟨l,hh⟩:=p
   simp only [h1]
   exact⟨(_,_),rfl,h2⟩
  ·exact h.elim
 | slice sz x lo hi mx=>
  simp only [zkz,zct,opK?_eq] at h
  obtain⟨v,h1,h2⟩:=yjh _ _ _ _ _ _ _ h
  exact⟨(_,_),by simp only [zdg,h1];rfl,h2⟩
 | fieldAddr off x=>
  simp only [zkz,zct] at h
  obtain⟨v,h1,h2⟩:=ydo _ _ _ _ h
  exact⟨(_,_),by simp only [zdg,h1];rfl,h2⟩
 | field off n x=>
  simp only [zkz,zct] at h
  obtain⟨v,h1,h2⟩:=ylm _ _ _ _ h
  exact⟨(_,_),by simp only [zdg,h1];rfl,h2⟩
 | idxAddr sz x i=>
  simp only [zkz,zct] at h
  obtain⟨v,h1,h2⟩:=yav _ _ _ _ _ h
  exact⟨(_,_),by simp only [zdg,h1];rfl,h2⟩
 | idxAddrA len sz x i=>
  simp only [zkz,zct] at h
  simp only [zdg]
  split at h
  ·rename_i hx;rw [hx]
   obtain⟨h0,h⟩:=h
   obtain⟨v,h1,h2⟩:=ydo _ _ _ _ h
   simp only [asI,if_pos h0,h1]
   exact⟨(_,_),rfl,h2⟩
  ·exact h.elim
 | idxS x i=>
  simp only [zkz,zct] at h
  simp only [zdg]
  split at h
  ·rename_i hx hi;rw [hx,hi]
   obtain⟨h0,h⟩:=h
   obtain⟨b,h1,h2⟩:=h.got
   simp only [asI,if_pos h0,h1]
   exact⟨(_,_),rfl,h2⟩
  ·exact h.elim
 | mkMap=>simp only [zkz,zof,ze9] at h;exact⟨(_,_),rfl,h⟩
 | lookup kk zero ok x key=>
  simp only [zkz,zct] at h
  obtain⟨v,h1,h2⟩:=ye6 h
  exact⟨(_,_),by simp only [zdg,h1];rfl,h2⟩
 | mapSet kk x key v=>
  simp only [zkz,zct] at h
  obtain⟨m',h1,h2⟩:=z34 h
  exact⟨(_,_),by simp only [zdg,h1];rfl,h2⟩
 | mapSetR kk x key v rs=>
  simp only [zkz,zct,zyp] at h
  obtain⟨hc,h⟩:=h
  obtain⟨m',h1,h2⟩:=z34 h
  exact⟨(_,_),by simp only [zdg,if_pos hc,h1];rfl,h2⟩
 | callK imm f args=>
  simp only [zkz,zct,zkk] at h
  obtain⟨⟨v,m'⟩,h1,hc,h2⟩:=callW_ok h
  exact⟨(v,m),by simp only [zdg,h1,if_pos hc],h2⟩
 | callQ f args=>
  simp only [zkz,zct,zkk] at h
  obtain⟨v,h1,h2⟩:=h.got
  exact⟨(v,m),by simp only [zdg,h1];rfl,h2⟩
 | callU b f args=>
  simp only [zkz,zct,zkk] at h
  obtain⟨v,m',h1,h2⟩:=h.got
  exact⟨(v,m'),by simp only [zdg,h1],h2⟩
 | callN f args=>
  simp only [zkz,zct,zkk] at h
  simp only [zdg]
  split at h
  ·rename_i hf;rw [hf]
   obtain⟨hc,h⟩:=h
   obtain⟨p,h1,h2⟩:=callW_ok h
   exact⟨p,by simp only [hc,if_true];exact h1,h2⟩
  ·exact h.elim
 | callD f args=>
  simp only [zkz,zct,zkk] at h
  simp only [zdg]
  split at h
  ·rename_i hf;rw [hf]
   obtain⟨hc,h⟩:=h
   obtain⟨p,h1,h2⟩:=callW_ok h
   exact⟨p,by simp only [hc,if_true];exact h1,h2⟩
  ·exact h.elim
 | nilEq kd neg x=>
  simp only [zkz,zct] at h
  obtain⟨k,b,h1,hc,h2⟩:=yob h
  exact⟨(_,_),by simp only [zdg,h1];exact if_pos (Nat.eq_of_beq_eq_true hc),h2⟩
 | loadD n a=>
  simp only [zkz,zct] at h
  simp only [zdg]
  split at h
  ·rename_i ha;rw [ha]
   obtain⟨v,h1,h2⟩:=zvc _ _ _ _ h
   exact⟨(_,_),by simp only [h1];rfl,h2⟩
  ·exact h.elim
 | idxAddrD sz x i=>
  simp only [zkz,zct] at h
  simp only [zdg]
  split at h
  ·rename_i hx;rw [hx]
   split at h
   ·rename_i hi;rw [hi]
    exact⟨(_,_),if_pos h.need,h.go⟩
   ·exact h.elim
  ·exact h.elim
 | appendIn r s x=>
  simp only [zkz,zct] at h
  obtain⟨⟨k,ds⟩,h1,h2⟩:=z0l _ _ _ h
  simp only [zdg,zt5,h1]
  split at h2
  ·rename_i hs;rw [hs]
   rw [zdl] at h2
   split at h2
   ·rename_i hl
    obtain⟨hc,h3⟩:=h2
    rw [ze9] at h3
    exact⟨(_,_),by simp only [hl];exact if_pos hc,h3⟩
   ·exact h2.elim
  ·exact h2.elim
 | rangeS x=>
  simp only [zkz,zct] at h
  simp only [zdg]
  split at h
  ·rename_i hx;rw [hx]
   simp only [zof,ze9] at h
   exact⟨(_,_),rfl,h⟩
  ·exact h.elim
 | nextS x=>
  simp only [zkz,zct] at h
  simp only [zdg]
  split at h
  ·rename_i hx;rw [hx]
   rw [zdl] at h
   split at h
   ·rename_i s pos hl
    simp only [ze9] at h
    simp only [ylj,hl]
    by_cases hp:pos<s.length
    ·exact⟨(_,_),if_pos hp,h.yes hp⟩
    ·exact⟨(_,_),if_neg hp,h.no hp⟩
   ·exact h.elim
  ·exact h.elim
 | extract x i=>
  simp only [zkz,zct] at h
  simp only [zdg]
  split at h
  ·rename_i hx;rw [hx]
   obtain⟨v,h1,h2⟩:=h.got
   exact⟨(_,_),by simp only [h1];rfl,h2⟩
  ·exact h.elim
 | call shared imm f args=>
  simp only [zkz,zct,zkk] at h
  exact callW_ok h
 | storeR n a x rs=>
  simp only [zkz,zct,zyp] at h
  obtain⟨hc,h⟩:=h
  obtain⟨v,h1,h2⟩:=z9z _ _ _ _ _ h
  exact⟨(_,_),by simp only [zdg,if_pos hc,h1];rfl,h2⟩
 | callB imm f args b=>exact h
 | bad=>exact h.elim
 | appendZ r zero s n=>
  simp only [zkz,zct] at h
  simp only [zdg]
  split at h
  ·rename_i hs hn;rw [hs,hn]
   obtain⟨⟨h1,h2,h3,h4⟩,h5⟩:=h
   rw [zof,ze9] at h5
   exact⟨(_,_),if_pos ⟨h1,h2,by simp [z6y,h3,h4]⟩,h5⟩
  ·exact h.elim
 | callR imm f args rs=>
  simp only [zkz,zct,zkk,zyp] at h
  obtain⟨⟨v,m'⟩,h1,hc,h2⟩:=callW_ok h
  exact⟨(v,m'),by simp only [zdg,h1,if_pos hc],h2⟩
 | len k x=>
  simp only [zkz,zct] at h
  obtain⟨v,h1,h2⟩:=yn4 _ _ _ _ h
  exact⟨(_,_),by simp only [zdg,h1];rfl,h2⟩
 | append r s x=>
  simp only [zkz,zct] at h
  obtain⟨⟨k,ds⟩,h1,h2⟩:=z0l _ _ _ h
  simp only [zdg,zsu,h1]
  exact zst _ _ _ _ _ _ _ _ h2
 | appendF r s x=>
  simp only [zkz,zct] at h
  obtain⟨⟨k,ds⟩,h1,h2⟩:=z0l _ _ _ h
  obtain⟨⟨v,m'⟩,h3,h4⟩:=zst _ _ _ _ _ _ _ _ h2
  obtain⟨d,h5,h6⟩:=zrh _ _ _ _ h4
  exact⟨(_,_),by simp only [zdg,zsu,h1,h3,h5];rfl,h6⟩
 | strB x=>
  simp only [zkz,zct] at h
  simp only [zdg]
  split at h
  ·rename_i hx;rw [hx];exact⟨(_,_),rfl,h⟩
  ·exact h.elim
 | appendS r s x=>
  simp only [zkz,zct] at h
  simp only [zdg]
  split at h
  ·rename_i hx hs;rw [hx,hs]
   simp only [zt7]
   exact zst _ _ _ _ _ _ _ _ h
  ·exact h.elim
 | minmax mx args=>
  simp only [zkz,zkk] at h
  obtain⟨v,h1,h2⟩:=ye8 _ _ _ h
  exact⟨(_,_),by simp only [zdg,h1];rfl,h2⟩
def ypa (E:Oracle) (cx:Cx) (e:Env) (m:Mem) (o:CO) (K:V->Mem->Prop):Prop:=
 match o with
 | ⟨dst,none,op⟩=>zkz E cx (dst.getD 0) e m op K
 | ⟨dst,some (t,want),op⟩=>yk1 e t fun g=>
  match g with
  | .d (.bool b)=>(match want with
   | true=>Br b (zkz E cx (dst.getD 0) e m op K) (K .skip m)
   | false=>Br b (K .skip m) (zkz E cx (dst.getD 0) e m op K))
  | .skip=>K .skip m
  | _=>False
theorem ymm {cx:Cx} {e:Env} {m:Mem} {o:CO} {K:V->Mem->Prop} (h:ypa E cx e m o K):∃p,zfk E cx e m o=some p/\K p.1 p.2:=by
 obtain⟨dst,guard,op⟩:=o
 cases guard with
 | none=>exact ycf h
 | some g=>
  obtain⟨t,want⟩:=g
  simp only [ypa,ztn] at h
  simp only [zfk]
  split at h
  ·rename_i b hb
   rw [hb]
   cases want<;>cases b
   ·exact ycf (h.no rfl)
   ·exact⟨(_,_),rfl,h.yes rfl⟩
   ·exact⟨(_,_),rfl,h.no rfl⟩
   ·exact ycf (h.yes rfl)
  ·rename_i hb;rw [hb];exact⟨(_,_),rfl,h⟩
  ·exact h.elim
def wpOps (E:Oracle) (cx:Cx):List CO->Env->Mem->(Env->Mem->Prop)->Prop
 | [],e,m,K=>K e m
 | o::r,e,m,K=>ypa E cx e m o fun v m'=>put?K e o.dst v fun e'=>wpOps E cx r e' m' K
theorem wpOps_ok {cx:Cx}:∀(os:List CO) (e:Env) (m:Mem) (K:Env->Mem->Prop),wpOps E cx os e m K->∃p,zk9 E cx os e m=some p/\K p.1 p.2
 | [],e,m,K,h=>⟨(e,m),rfl,h⟩
 | o::r,e,m,K,h=>by
  obtain⟨⟨v,m'⟩,h1,h2⟩:=ymm h
  rw [put?K_eq] at h2
  obtain⟨p,h3,h4⟩:=wpOps_ok r _ _ K h2
  exact⟨p,by simp only [zk9,h1];exact h3,h4⟩
def ytj (K1:Env->Mem->Prop) (K:Ex->Env->Mem->Prop) (x:Ex) (e:Env) (m:Mem):Prop:=
 match x with
 | .normal=>K1 e m
 | .exit i=>K (.exit i) e m
 | .ret=>K .ret e m
def ymu (id:Nat) (K:Ex->Env->Mem->Prop) (x:Ex) (e:Env) (m:Mem):Prop:=
 match x with
 | .normal=>K .normal e m
 | .exit j=>(match Nat.beq j id with
  | true=>K .normal e m
  | false=>K (.exit j) e m)
 | .ret=>K .ret e m
def ym9 (cx:Cx) (i:Id) (e:Env) (K:Ex->Env->Mem->Prop) (m':Mem):Prop:=zmd m' i fun o=>
 match o with
 | some (.loop _ _ _ _ _ false _ j)=>z3f cx.nx m' fun mb=>
  (match yn5 cx.nx (idsAll mb) with
  | true=>zy5 mb i .gone fun m2=>
   (match j with
   | none=>K .normal e m2
   | some (.exit id)=>K (.exit id) e m2
   | some .ret=>K .ret e m2)
  | false=>False)
 | _=>False
def wpC (E:Oracle) (cx:Cx):C->Env->Mem->(Ex->Env->Mem->Prop)->Prop
 | .skip,e,m,K=>K .normal e m
 | .label,e,m,K=>K .normal e m
 | .reg _ ops kill,e,m,K=>wpOps E cx ops e m fun e' m'=>zru kill e' fun e''=>K .normal e'' m'
 | .regC ops kill chk,e,m,K=>wpOps E cx ops e m fun e' m'=>Chk (yku e' chk) (zru kill e' fun e''=>K .normal e'' m')
 | .seq a b,e,m,K=>wpC E cx a e m (ytj (fun e' m'=>wpC E cx b e' m' K) K)
 | .cond c a b,e,m,K=>opK e c fun v=>
  match v with
  | .d (.bool t)=>Br t (wpC E cx a e m K) (wpC E cx b e m K)
  | _=>False
 | .block id c,e,m,K=>wpC E cx c e m (ymu id K)
 | .loop live c,e,m,K=>yh6 e live fun e'=>ya1 m fun ks=>gcK ks e' m fun m'=>zak E cx live ks c e' m' K
 | .exit id,e,m,K=>K (.exit id) e m
 | .ret,e,m,K=>K .ret e m
 | .bad,_,_,_=>False
 | .scope c,e,m,K=>wpC E cx c e m K
 | .rangeM pre it x out nxt pair live ops kill code,e,m,K=>wpOps E cx pre e m fun e1 m1=>
  ∃x' e' m',zpv (fun e m=>(zk9 E cx ops e m).bind fun q=>evC E cx code (zj4 kill q.1) q.2) cx it x out nxt pair live e1 m1=some (x',e',m')/\K x' e' m'
 | .rangeFn slot f ps a b,e,m,K=>yhr cx slot m fun i=>zy5 m i (.loop e ps a b cx.lv false false none) fun m1=>ya1 m1 fun ks=>
  match yn5 cx.nx ks with
  | true=>opK e f fun fv=>
   (match fv with
   | .fn g first caps=>In E cx.nx g (first ++[.yld i]++caps) m1 fun _ m'=>ym9 cx i e K m'
   | _=>False)
  | false=>False
theorem wpC_ok {cx:Cx}:∀(c:C) (e:Env) (m:Mem) (K:Ex->Env->Mem->Prop),wpC E cx c e m K->∃x e' m',evC E cx c e m=some (x,e',m')/\K x e' m'
 | .rangeM pre it x out nxt pair live ops kill code,e,m,K,h=>by
  obtain⟨p,h1,x',e',m',h2,h3⟩:=wpOps_ok pre e m _ h
  exact⟨x',e',m',by simp only [evC,h1,Option.bind_some,h2],h3⟩
 | .skip,e,m,K,h=>⟨_,_,_,rfl,h⟩
 | .label,e,m,K,h=>⟨_,_,_,rfl,h⟩
 | .exit _,e,m,K,h=>⟨_,_,_,rfl,h⟩
 | .ret,e,m,K,h=>⟨_,_,_,rfl,h⟩
 | .bad,_,_,_,h=>h.elim
 | .scope c,e,m,K,h=>by
  obtain⟨x,e',m',h1,h2⟩:=wpC_ok c e m K h
  exact⟨x,e',m',by simp only [evC];exact h1,h2⟩
 | .reg _ ops kill,e,m,K,h=>by
  obtain⟨p,h1,h2⟩:=wpOps_ok ops e m _ h
  rw [zp1] at h2
  exact⟨_,_,_,by simp only [evC,h1];rfl,h2⟩
 | .regC ops kill chk,e,m,K,h=>by
  obtain⟨p,h1,hc,h2⟩:=wpOps_ok ops e m _ h
  rw [zp1] at h2
  exact⟨_,_,_,by simp only [evC,h1,Option.bind_some];exact if_pos hc,h2⟩
 | .seq a b,e,m,K,h=>by
  obtain⟨x,e',m',h1,h2⟩:=wpC_ok a e m _ h
  cases x with
  | normal=>
   obtain⟨x2,e2,m2,h3,h4⟩:=wpC_ok b e' m' K h2
   exact⟨x2,e2,m2,by simp only [evC,h1];exact h3,h4⟩
  | _=>exact⟨_,_,_,by simp only [evC,h1],h2⟩
 | .cond c a b,e,m,K,h=>by
  simp only [wpC,zct] at h
  simp only [evC]
  split at h
  ·rename_i t ht
   rw [ht]
   cases t with
   | true=>
    obtain⟨x2,e2,m2,h3,h4⟩:=wpC_ok a e m K (h.yes rfl)
    exact⟨x2,e2,m2,by simpa using h3,h4⟩
   | false=>
    obtain⟨x2,e2,m2,h3,h4⟩:=wpC_ok b e m K (h.no rfl)
    exact⟨x2,e2,m2,by simpa using h3,h4⟩
  ·exact h.elim
 | .block id c,e,m,K,h=>by
  obtain⟨x,e',m',h1,h2⟩:=wpC_ok c e m _ h
  cases x with
  | exit j=>
   simp only [ymu] at h2
   cases hb:Nat.beq j id with
   | true=>
    rw [hb] at h2
    exact⟨.normal,e',m',by simp only [evC,h1];exact if_pos (Nat.eq_of_beq_eq_true hb),h2⟩
   | false=>
    rw [hb] at h2
    have:j≠id:=fun hh=>by rw [hh,Nat.beq_refl] at hb;cases hb
    exact⟨.exit j,e',m',by simp only [evC,h1];exact if_neg this,h2⟩
  | _=>exact⟨_,_,_,by simp only [evC,h1],h2⟩
 | .loop live c,e,m,K,h=>by
  simp only [wpC,z6n,zuz,yg2] at h
  obtain⟨x,e',m',h1,h2⟩:=h.got
  exact⟨x,e',m',by simp only [evC,h1],h2⟩
 | .rangeFn slot f ps a b,e,m,K,h=>by
  simp only [wpC,zof,ze9,zuz,z05,zct] at h
  simp only [evC]
  split at h
  ·rename_i hl
   rw [if_pos hl]
   split at h
   ·rename_i hf
    rw [hf]
    obtain⟨v,m',h1,h2⟩:=h.got
    simp only [h1]
    simp only [ym9,zdl,zui,z05,ze9] at h2
    split at h2
    ·rename_i hlk
     simp only [hlk]
     split at h2
     ·rename_i hl2
      simp only [if_pos hl2]
      split at h2<;>exact⟨_,_,_,rfl,h2⟩
     ·exact h2.elim
    ·exact h2.elim
   ·exact h.elim
  ·exact h.elim
def yqo (m:Mem) (e:Env) (r:RV) (K:V->Prop):Prop:=
 match r with
 | .tmp t=>yk1 e t K
 | .cell t n=>yk1 e t fun a=>yle n m a K
theorem yiy {m:Mem} {e:Env} {r:RV} {K:V->Prop} (h:yqo m e r K):∃v,yqn m e r=some v/\K v:=by
 cases r with
 | tmp t=>simp only [yqo,ztn] at h;exact⟨_,rfl,h⟩
 | cell t n=>simp only [yqo,ztn] at h;exact ydj _ _ _ _ h
def yop (m:Mem) (e:Env):List RV->(List V->Prop)->Prop
 | [],K=>K []
 | r::q,K=>yqo m e r fun v=>yop m e q fun vs=>K (v::vs)
theorem yd8 {m:Mem} {e:Env}:∀(l:List RV) (K:List V->Prop),yop m e l K->∃vs,z23 m e l=some vs/\K vs
 | [],K,h=>⟨[],rfl,h⟩
 | r::q,K,h=>by
  obtain⟨v,h1,h2⟩:=yiy h
  obtain⟨vs,h3,h4⟩:=yd8 q _ h2
  exact⟨v::vs,by simp only [z23,h1,h3],h4⟩
def zyx (m:Mem) (e:Env) (rs:List RV) (K:V->Prop):Prop:=
 match rs with
 | []=>K (.tup [])
 | [r]=>yqo m e r K
 | r::r2::rs=>yop m e (r::r2::rs) fun vs=>K (.tup vs)
theorem z1p {m:Mem} {e:Env} {rs:List RV} {K:V->Prop} (h:zyx m e rs K):∃v,results m e rs=some v/\K v:=by
 unfold zyx at h
 split at h
 ·exact⟨_,rfl,h⟩
 ·exact yiy h
 ·obtain⟨vs,h1,h2⟩:=yd8 _ _ h
  exact⟨_,by simp only [results,h1];rfl,h2⟩
def yrx (rs:List RV) (K:V->Mem->Prop) (x:Ex) (e:Env) (m:Mem):Prop:=
 match x with
 | .normal=>zyx m e rs fun v=>K v m
 | .ret=>zyx m e rs fun v=>K v m
 | .exit _=>False
def yrh:Nat->List V->(Env->Prop)->Prop
 | _,[],K=>K []
 | i,v::r,K=>yrh (i+1) r fun e=>K ((i,v)::e)
theorem yic:∀(i:Nat) (l:List V) (K:Env->Prop),yrh i l K=K (params i l)
 | _,[],_=>rfl
 | i,v::r,K=>by simp only [yrh,params,yic (i+1) r]
variable {Γ : Nat -> Option CF} {X : Extern}
def ykl (E:Oracle) (lv:Nat) (cf:CF) (args:List V) (m:Mem) (K:V->Mem->Prop):Prop:=yrh 0 args fun e=>wpC E ⟨lv,lv+1⟩ cf.body e m (yrx cf.results K)
theorem In.enter (hE:Lim Γ X E) {lv f:Nat} {args:List V} {m:Mem} {K:V->Mem->Prop} {cf:CF} (hX:X f=none) (hc:Γ f=some cf) (h:ykl E lv cf args m K):In E lv f args m K:=by
 simp only [ykl,yic] at h
 obtain⟨x,e',m',h1,h2⟩:=wpC_ok _ _ _ _ h
 refine⟨?_⟩
 rw [hE.fix]
 simp only [step,hX,hc,h1]
 cases x with
 | normal=>
  simp only [yrx] at h2
  obtain⟨v,h3,h4⟩:=z1p h2
  exact⟨v,m',by simp only [h3];rfl,h4⟩
 | ret=>
  simp only [yrx] at h2
  obtain⟨v,h3,h4⟩:=z1p h2
  exact⟨v,m',by simp only [h3];rfl,h4⟩
 | exit i=>exact h2.elim
theorem Fc.enter (hE:Lim Γ X E) {f:Nat} {args:List V} {r:V} {cf:CF} (hX:X f=none) (hc:Γ f=some cf) (h:ykl E 0 cf args [] fun v m'=>ymg m' v fun d=>Ret d r):Fc E f args r:=by
 obtain⟨v,m',h1,h2⟩:=(In.enter hE hX hc h).got
 obtain⟨d,h3,h4⟩:=yel _ _ _ h2
 exact⟨v,m',h1,by rw [h3,h4.eq]⟩
theorem Fc.extern (hE:Lim Γ X E) {f:Nat} {args:List V} {r v:V} {m':Mem} {x:List V->Mem->Option (V×Mem)} (hX:X f=some x) (h:x args []=some (v,m')) (ht:ycb m' v=some r):Fc E f args r:=
 ⟨v,m',by rw [hE.fix];simp only [step,hX,h];rfl,ht⟩
theorem In.extern (hE:Lim Γ X E) {lv f:Nat} {args:List V} {m:Mem} {K:V->Mem->Prop} {v:V} {m':Mem} {x:List V->Mem->Option (V×Mem)} (hX:X f=some x) (h:x args m=some (v,m')) (hk:K v m'):In E lv f args m K:=
 ⟨v,m',by rw [hE.fix];simp only [step,hX,h];rfl,hk⟩
theorem zah.of {f:Nat} {args:List V} {r:V} {K:V->Prop} (h:Fc E f args r) (hk:K r):zah E f args K:=⟨r,h,hk⟩
def z7k (E:Oracle) (cx:Cx) (live:List Nat) (keep:List Id) (body:C) (K:Ex->Env->Mem->Prop) (x:Ex) (e:Env) (m:Mem):Prop:=
 match x with
 | .normal=>yh6 e live fun e2=>gcK keep e2 m fun m2=>zak E cx live keep body e2 m2 K
 | .exit i=>K (.exit i) e m
 | .ret=>K .ret e m
theorem zak.step (hE:Lim Γ X E) {cx:Cx} {live:List Nat} {keep:List Id} {body:C} {e:Env} {m:Mem} {K:Ex->Env->Mem->Prop} (h:wpC E cx body e m (z7k E cx live keep body K)):zak E cx live keep body e m K:=by
 obtain⟨x,e',m',h1,h2⟩:=wpC_ok _ _ _ _ h
 refine⟨?_⟩
 rw [hE.fix]
 simp only [Go.Evl.step,h1]
 cases x with
 | normal=>
  simp only [z7k,z6n,yg2] at h2
  exact h2.got
 | exit i=>exact⟨_,_,_,rfl,h2⟩
 | ret=>exact⟨_,_,_,rfl,h2⟩
theorem zak.mono {cx:Cx} {live:List Nat} {keep:List Id} {body:C} {e:Env} {m:Mem} {K K':Ex->Env->Mem->Prop} (h:zak E cx live keep body e m K) (hk:∀x e m,K x e m->K' x e m):zak E cx live keep body e m K':=by
 obtain⟨x,e',m',h1,h2⟩:=h.got
 exact⟨x,e',m',h1,hk _ _ _ h2⟩
def yri:List Nat->List V->Env->(Env->Prop)->Prop
 | t::r,v::s,e,K=>yqg e t v fun e'=>yri r s e' K
 | [],_,e,K=>K e
 | _::_,[],e,K=>K e
theorem yj8:∀(ps:List Nat) (vs:List V) (e:Env) (K:Env->Prop),yri ps vs e K=K (ypb ps vs e)
 | [],[],e,K=>rfl
 | [],_::_,e,K=>rfl
 | _::_,[],e,K=>rfl
 | t::r,v::s,e,K=>by simp only [yri,ypb,ybn,yj8 r s]
def yea (o:Id) (ks:List Id) (K:V->Mem->Prop) (x:Ex) (_:Env) (m2:Mem):Prop:=zmd m2 o fun ob=>
 match ob with
 | some (.loop e' ps' a' b' lv' true false _)=>
  (match x with
  | .normal=>zy5 m2 o (.loop e' ps' a' b' lv' false false none) fun m3=>gcK ks [] m3 fun m4=>K (.d (.bool true)) m4
  | .exit id=>zy5 m2 o (.loop e' ps' a' b' lv' false true (some (.exit id))) fun m3=>K (.d (.bool false)) m3
  | .ret=>zy5 m2 o (.loop e' ps' a' b' lv' false true (some .ret)) fun m3=>K (.d (.bool false)) m3)
 | _=>False
def yeb (E:Oracle) (nx:Nat) (o:Id) (lv:Nat) (b:C) (ks:List Id) (K:V->Mem->Prop) (x:Ex) (e1:Env) (m1:Mem):Prop:=
 match x with
 | .normal=>zmd m1 o fun ob=>
  (match ob with
  | some (.loop e' ps' a' b' lv' false false j')=>zy5 m1 o (.loop e' ps' a' b' lv' true false j') fun m2=>wpC E ⟨lv,nx⟩ b e1 m2 (yea o ks K)
  | _=>False)
 | _=>False
def ynb (E:Oracle) (nx:Nat) (o:Id) (args:List V) (m:Mem) (K:V->Mem->Prop):Prop:=zmd m o fun ob=>
 match ob with
 | some (.loop e ps a b lv false false _)=>
  (match Nat.beq ps.length args.length with
  | true=>yri ps args e fun e0=>ya1 m fun ks=>wpC E ⟨lv,nx⟩ a e0 m (yeb E nx o lv b ks K)
  | false=>False)
 | _=>False
theorem Rnd.enter (hE:Lim Γ X E) {nx:Nat} {o:Id} {args:List V} {m:Mem} {K:V->Mem->Prop} (h:ynb E nx o args m K):Rnd E nx o args m K:=by
 refine⟨?_⟩
 rw [hE.fix]
 simp only [ynb,zdl] at h
 simp only [Go.Evl.step]
 split at h
 ·rename_i hl
  simp only [hl]
  split at h
  ·rename_i hlen
   rw [if_pos (Nat.eq_of_beq_eq_true hlen)]
   simp only [yj8,zuz] at h
   obtain⟨x,e1,m1,h1,h2⟩:=wpC_ok _ _ _ _ h
   simp only [h1]
   cases x with
   | normal=>
    simp only [yeb,zdl] at h2
    split at h2
    ·rename_i hl1
     simp only [hl1]
     rw [ze9] at h2
     obtain⟨x,e2,m2,h3,h4⟩:=wpC_ok _ _ _ _ h2
     simp only [h3]
     simp only [yea,zdl] at h4
     split at h4
     ·rename_i hl2
      simp only [hl2]
      cases x with
      | normal=>
       simp only [ze9,yg2] at h4
       exact⟨_,_,rfl,h4⟩
      | exit i=>
       simp only [ze9] at h4
       exact⟨_,_,rfl,h4⟩
      | ret=>
       simp only [ze9] at h4
       exact⟨_,_,rfl,h4⟩
     ·exact h4.elim
    ·exact h2.elim
   | exit i=>exact h2.elim
   | ret=>exact h2.elim
  ·exact h.elim
 ·exact h.elim
end
end Go.Evl
