
/-
 The evaluator's limit, and what is to be shown for code to end well.
-/
import Derived.Test.YtmbofbehkalgkaaGreatDoorEvSyn
namespace Go.Evl
def Le (F G:Oracle):Prop:=∀q r,F q=some r->G q=some r
structure z24 (It:Nat->Oracle) (E:Oracle):Prop where
 up:∀n,Le (It n) (It (n+1))
 lim:∀q r,E q=some r↔∃n,It n q=some r
theorem z24.le {It:Nat->Oracle} {E:Oracle} (h:z24 It E) {n m:Nat} (hnm:n<=m):Le (It n) (It m):=by
 induction hnm with
 | refl=>exact fun _ _ h=>h
 | step _ ih=>exact fun q r hq=>h.up _ q r (ih q r hq)
structure zbw {α:Type} (It:Nat->Oracle) (E:Oracle) (f:Oracle->Option α):Prop where
 mono:∀F G,Le F G->∀r,f F=some r->f G=some r
 reach:∀r,f E=some r->∃n,f (It n)=some r
section
variable {It : Nat -> Oracle} {E : Oracle} {α β : Type}
theorem zbw.const {f:Oracle->Option α} (h:∀F G,f F=f G):zbw It E f:=
 ⟨fun F G _ _ hr=>(h G F).trans hr,fun _ hr=>⟨0,(h _ E).trans hr⟩⟩
theorem zbw.query (hc:z24 It E) (q:Req):zbw It E (fun F=>F q):=
 ⟨fun _ _ h r hr=>h q r hr,fun r hr=>(hc.lim q r).1 hr⟩
theorem zbw.bind (hc:z24 It E) {f:Oracle->Option α} {k:α->Oracle->Option β} (hf:zbw It E f) (hk:∀a,zbw It E (k a)):zbw It E (fun F=>(f F).bind fun a=>k a F):=by
 refine⟨fun F G h r hr=> ?_,fun r hr=> ?_⟩
 ·obtain⟨a,h1,h2⟩:=Option.bind_eq_some_iff.1 hr
  exact Option.bind_eq_some_iff.2 ⟨a,hf.mono F G h a h1,(hk a).mono F G h r h2⟩
 ·obtain⟨a,h1,h2⟩:=Option.bind_eq_some_iff.1 hr
  obtain⟨n,hn⟩:=hf.reach a h1
  obtain⟨k',hk'⟩:=(hk a).reach r h2
  refine⟨max n k',Option.bind_eq_some_iff.2 ⟨a,hf.mono _ _ (hc.le (Nat.le_max_left _ _)) a hn,(hk a).mono _ _ (hc.le (Nat.le_max_right _ _)) r hk'⟩⟩
theorem zbw.of_eq {f g:Oracle->Option α} (h:∀F,f F=g F) (hg:zbw It E g):zbw It E f:=by
 have:f=g:=funext h
 rw [this];exact hg
theorem zkz {p:Prop} [Decidable p] {f g:Oracle->Option α} (hf:zbw It E f) (hg:zbw It E g):zbw It E (fun F=>if p then f F else g F):=by
 by_cases h:p
 ·exact zbw.of_eq (fun F=>if_pos h) hf
 ·exact zbw.of_eq (fun F=>if_neg h) hg
variable (hc : z24 It E)
include hc
theorem zxc (cx:Cx) (f:V) (args:List V) (m:Mem):zbw It E (fun F=>zgw F cx f args m):=by
 cases f with
 | fn f first caps=>
  refine zbw.of_eq (g:=fun F=>(F (.call cx.nx f (first ++args++caps) m)).bind fun r=>match r with| .val v m'=>some (v,m')|_=>none) (fun F=> ?_) (zbw.bind hc (zbw.query hc _) fun r=>zbw.const fun _ _=>rfl)
  simp only [zgw]
  cases F (.call cx.nx f (first ++args++caps) m) with
  | none=>rfl
  | some r=>cases r<;>rfl
 | yld o=>
  refine zbw.of_eq (g:=fun F=>(F (.round cx.nx o args m)).bind fun r=>match r with| .val v m'=>some (v,m')|_=>none) (fun F=> ?_) (zbw.bind hc (zbw.query hc _) fun r=>zbw.const fun _ _=>rfl)
  simp only [zgw]
  cases F (.round cx.nx o args m) with
  | none=>rfl
  | some r=>cases r<;>rfl
 | _=>exact zbw.const fun _ _=>rfl
theorem zk7 (cx:Cx) (slot:Nat) (shared imm:Bool) (f:V) (args:List V) (m:Mem):zbw It E (fun F=>zil F cx slot shared imm f args m):=by
 unfold zil
 refine zkz (zkz ?_ (zbw.const fun _ _=>rfl)) ?_
 ·refine zbw.of_eq (g:=fun F=>(zgw F cx f args m).bind fun p=>if zi7 cx.nx (idsAll (zd7 cx.nx p.2)) then zmu cx slot cx.nx imm (zd7 cx.nx p.2) p.2 p.1 else none) (fun F=> ?_) (zbw.bind hc (zxc hc cx f args m) fun r=>zbw.const fun _ _=>rfl)
  cases zgw F cx f args m<;>rfl
 ·cases f with
  | fn f first caps=>
   dsimp only
   generalize zdo false m (first ++args++caps)=o
   cases o with
   | none=>exact zbw.const fun _ _=>rfl
   | some ds=>
    refine zbw.of_eq (g:=fun F=>(F (.call 0 f (asV ds) [])).bind fun r=>match r with| .val v m'=>zmu cx slot 0 imm m m' v|_=>none) (fun F=> ?_) (zbw.bind hc (zbw.query hc _) fun r=>zbw.const fun _ _=>rfl)
    simp only
    cases F (.call 0 f (asV ds) []) with
    | none=>rfl
    | some r=>cases r<;>rfl
  | _=>exact zbw.const fun _ _=>rfl
theorem z6f (f:V) (args:List V) (m:Mem):zbw It E (fun F=>zsl F f args m):=by
 cases f with
 | fn f first caps=>
  simp only [zsl]
  refine zkz ?_ (zbw.const fun _ _=>rfl)
  refine zbw.of_eq (g:=fun F=>(F (.call 1 f (renL (number ⟨0,0⟩ 0 0 (reach 0 m 64 (idsL (first ++args++caps)) [])) (first ++args++caps)) (moved (number ⟨0,0⟩ 0 0 (reach 0 m 64 (idsL (first ++args++caps)) [])) m (number ⟨0,0⟩ 0 0 (reach 0 m 64 (idsL (first ++args++caps)) []))))).bind fun r=>match r with
   | .val v m1=>if z4e m1 (moved (number ⟨0,0⟩ 0 0 (reach 0 m 64 (idsL (first ++args++caps)) [])) m (number ⟨0,0⟩ 0 0 (reach 0 m 64 (idsL (first ++args++caps)) [])))&&(ids v).all (fun i=>((number ⟨0,0⟩ 0 0 (reach 0 m 64 (idsL (first ++args++caps)) [])).map (·.2)).elem i) then some (ren (znm (number ⟨0,0⟩ 0 0 (reach 0 m 64 (idsL (first ++args++caps)) []))) v) else none
   | _=>none) (fun F=> ?_) (zbw.bind hc (zbw.query hc _) fun r=>zbw.const fun _ _=>rfl)
  generalize number ⟨0,0⟩ 0 0 (reach 0 m 64 (idsL (first ++args++caps)) [])=σ
  cases F (.call 1 f (renL σ (first ++args++caps)) (moved σ m σ)) with
  | none=>rfl
  | some r=>cases r<;>rfl
 | _=>exact zbw.const fun _ _=>rfl
theorem zxd (imm:Bool) (f:V) (args:List V) (m:Mem):zbw It E (fun F=>zuz F imm f args m):=by
 cases f with
 | fn f first caps=>
  simp only [zuz]
  refine zkz ?_ (zbw.const fun _ _=>rfl)
  refine zbw.of_eq (g:=fun F=>(F (.call 1 f (renL (number ⟨0,0⟩ 0 0 (reach 0 m 64 (idsL ((first ++args++caps).map (z1q m))) [])) ((first ++args++caps).map (z1q m))) (moved (number ⟨0,0⟩ 0 0 (reach 0 m 64 (idsL ((first ++args++caps).map (z1q m))) [])) m (number ⟨0,0⟩ 0 0 (reach 0 m 64 (idsL ((first ++args++caps).map (z1q m))) []))))).bind fun r=>match r with
   | .val v m1=>
    if imm then
     if zi7 1 (ziy (moved (number ⟨0,0⟩ 0 0 (reach 0 m 64 (idsL ((first ++args++caps).map (z1q m))) [])) m (number ⟨0,0⟩ 0 0 (reach 0 m 64 (idsL ((first ++args++caps).map (z1q m))) []))))&&zi7 1 (idsAll (zd7 1 m1)) then
      match zmu ⟨0,1⟩ 0 1 true (zd7 1 m1) m1 v with
      | some (v',m2)=>if(ids v').all (fun i=>((number ⟨0,0⟩ 0 0 (reach 0 m 64 (idsL ((first ++args++caps).map (z1q m))) [])).map (·.2)).elem i) then(z05 (number ⟨0,0⟩ 0 0 (reach 0 m 64 (idsL ((first ++args++caps).map (z1q m))) [])) m2 (number ⟨0,0⟩ 0 0 (reach 0 m 64 (idsL ((first ++args++caps).map (z1q m))) [])) m).map fun m'=>(ren (znm (number ⟨0,0⟩ 0 0 (reach 0 m 64 (idsL ((first ++args++caps).map (z1q m))) []))) v',m') else none
      | none=>none
     else none
    else if(ids v).all (fun i=>((number ⟨0,0⟩ 0 0 (reach 0 m 64 (idsL ((first ++args++caps).map (z1q m))) [])).map (·.2)).elem i) then(z05 (number ⟨0,0⟩ 0 0 (reach 0 m 64 (idsL ((first ++args++caps).map (z1q m))) [])) m1 (number ⟨0,0⟩ 0 0 (reach 0 m 64 (idsL ((first ++args++caps).map (z1q m))) [])) m).map fun m'=>(ren (znm (number ⟨0,0⟩ 0 0 (reach 0 m 64 (idsL ((first ++args++caps).map (z1q m))) []))) v,m') else none
   | _=>none) (fun F=> ?_) (zbw.bind hc (zbw.query hc _) fun r=>zbw.const fun _ _=>rfl)
  generalize number ⟨0,0⟩ 0 0 (reach 0 m 64 (idsL ((first ++args++caps).map (z1q m))) [])=σ
  cases F (.call 1 f (renL σ ((first ++args++caps).map (z1q m))) (moved σ m σ)) with
  | none=>rfl
  | some r=>cases r<;>rfl
 | _=>exact zbw.const fun _ _=>rfl
theorem zxb {γ:Type} {run:Oracle->γ->Option α} (h:∀a,zbw It E (fun F=>run F a)):∀l:List γ,zbw It E (fun F=>z8d (run F) l)
 | []=>zbw.const fun _ _=>rfl
 | a::r=>zbw.bind hc (h a) fun _=>zbw.bind hc (zxb h r) fun _=>zbw.const fun _ _=>rfl
theorem z3t {run:Oracle->Mem->Option (V×Mem)} (h:∀m,zbw It E (fun F=>run F m)) (m:Mem) (v:V):zbw It E (fun F=>zjk (run F) m v):=by
 unfold zjk
 split
 ·split
  ·exact zkz (zbw.bind hc (h _) fun _=>zbw.bind hc (zxb hc (fun _=>h _) _) fun _=>zbw.const fun _ _=>rfl) (zbw.const fun _ _=>rfl)
  ·exact h m
 ·exact h m
theorem zo0 {body:Oracle->Env->Mem->Option (Ex×Env×Mem)} (h:∀e m,zbw It E (fun F=>body F e m)) (it:Nat) (i:Id) (out nxt pair:Nat) (live:List Nat) (keep:List Id):
  ∀(l:List (D×V)) (e:Env) (m:Mem),zbw It E (fun F=>zct (body F) it i out nxt pair live keep l e m)
 | [],_,_=>zbw.const fun _ _=>rfl
 | (k,v)::r,e,m=>by
  refine zbw.bind hc (h _ _) fun p=> ?_
  unfold zel
  split
  ·exact zkz (zo0 h it i out nxt pair live keep r _ _) (zbw.const fun _ _=>rfl)
  ·exact zbw.const fun _ _=>rfl
theorem z3v {body:Oracle->Env->Mem->Option (Ex×Env×Mem)} (h:∀e m,zbw It E (fun F=>body F e m)) (cx:Cx) (it:Nat) (x:Opd) (out nxt pair:Nat) (live:List Nat) (e:Env) (m:Mem):
  zbw It E (fun F=>zhy (body F) cx it x out nxt pair live e m):=by
 unfold zhy
 split
 ·split
  ·exact zbw.bind hc (zbw.bind hc (zo0 hc h _ _ _ _ _ _ _ _ _ _) fun _=>zbw.bind hc (zxb hc (fun _=>zo0 hc h _ _ _ _ _ _ _ _ _ _) _) fun _=>zbw.const fun _ _=>rfl) fun _=>zbw.const fun _ _=>rfl
  ·exact zbw.const fun _ _=>rfl
 ·exact zbw.const fun _ _=>rfl
theorem z3u (cx:Cx) (slot:Nat) (e:Env) (m:Mem) (op:COp):zbw It E (fun F=>zb5 F cx slot e m op):=by
 cases op with
 | call s i f args=>exact zk7 hc cx slot s i _ _ m
 | callD f args=>
  simp only [zb5]
  split
  ·split
   ·exact zk7 hc cx slot false true _ _ m
   ·exact zbw.const fun _ _=>rfl
  ·exact zbw.const fun _ _=>rfl
 | callK i f args=>
  refine zbw.of_eq (g:=fun F=>(zil F cx slot true i (zoq (f.ev e)) (evs e args) m).bind fun p=>if leM m p.2 m=true then some (p.1,m) else none) (fun F=> ?_) (zbw.bind hc (zk7 hc cx slot true i _ _ m) fun p=>zbw.const fun _ _=>rfl)
  simp only [zb5]
  cases zil F cx slot true i (zoq (f.ev e)) (evs e args) m<;>rfl
 | callQ f args=>
  refine zbw.of_eq (g:=fun F=>(zsl F (zoq (f.ev e)) (evs e args) m).bind fun v=>some (v,m)) (fun F=> ?_) (zbw.bind hc (z6f hc _ _ m) fun p=>zbw.const fun _ _=>rfl)
  simp only [zb5]
  cases zsl F (zoq (f.ev e)) (evs e args) m<;>rfl
 | callU b f args=>exact zxd hc b _ _ m
 | callN f args=>
  simp only [zb5]
  split
  ·split
   ·exact zk7 hc cx slot false false _ _ m
   ·exact zbw.const fun _ _=>rfl
  ·exact zbw.const fun _ _=>rfl
 | callB i f args b=>exact z3t hc (fun m=>zk7 hc cx slot true i _ _ m) m _
 | callR i f args rs=>
  refine zbw.of_eq (g:=fun F=>(zil F cx slot true i (zoq (f.ev e)) (evs e args) m).bind fun p=>if z6u m p.2 (rs.map (get e))=true then some p else none) (fun F=> ?_) (zbw.bind hc (zk7 hc cx slot true i _ _ m) fun p=>zbw.const fun _ _=>rfl)
  simp only [zb5]
  cases zil F cx slot true i (zoq (f.ev e)) (evs e args) m<;>rfl
 | _=>exact zbw.const fun _ _=>rfl
theorem yay (cx:Cx) (e:Env) (m:Mem) (o:CO):zbw It E (fun F=>zdl F cx e m o):=by
 obtain⟨dst,guard,op⟩:=o
 cases guard with
 | none=>exact z3u hc cx _ e m op
 | some g=>
  obtain⟨t,want⟩:=g
  simp only [zdl]
  split
  ·split
   ·exact z3u hc cx _ e m op
   ·exact zbw.const fun _ _=>rfl
  ·exact zbw.const fun _ _=>rfl
  ·exact zbw.const fun _ _=>rfl
theorem zm3 (cx:Cx):∀(os:List CO) (e:Env) (m:Mem),zbw It E (fun F=>zga F cx os e m)
 | [],e,m=>zbw.const fun _ _=>rfl
 | o::r,e,m=>by
  refine zbw.of_eq (g:=fun F=>(zdl F cx e m o).bind fun p=>zga F cx r (put? e o.dst p.1) p.2) (fun F=> ?_) (zbw.bind hc (yay hc cx e m o) fun p=>zm3 cx r _ _)
  simp only [zga]
  cases zdl F cx e m o<;>rfl
def ykm:Res->Option (Ex×Env×Mem)
 | .st x e' m'=>some (x,e',m')
 | _=>none
def ygk (cx:Cx) (i:Id) (e:Env):Res->Option (Ex×Env×Mem)
 | .val _ m'=>
  match look m' i with
  | some (.loop _ _ _ _ _ false _ j)=>
   if zi7 cx.nx (idsAll (zd7 cx.nx m')) then
    let m2:=upd (zd7 cx.nx m') i .gone
    match j with
    | none=>some (.normal,e,m2)
    | some j=>some (j.ex,e,m2)
   else none
  | _=>none
 | _=>none
theorem zhn (cx:Cx):∀(c:C) (e:Env) (m:Mem),zbw It E (fun F=>evC F cx c e m)
 | .skip,e,m=>zbw.const fun _ _=>rfl
 | .label,e,m=>zbw.const fun _ _=>rfl
 | .exit _,e,m=>zbw.const fun _ _=>rfl
 | .ret,e,m=>zbw.const fun _ _=>rfl
 | .bad,e,m=>zbw.const fun _ _=>rfl
 | .scope c,e,m=>by simp only [evC];exact zhn cx c e m
 | .fz t c,e,m=>by
  simp only [evC]
  cases freeze false m (get e t) with
  | some d=>exact zhn cx c _ m
  | none=>exact zbw.const fun _ _=>rfl
 | .reg _ ops kill,e,m=>by
  refine zbw.of_eq (g:=fun F=>(zga F cx ops e m).bind fun p=>some (.normal,zb2 kill p.1,p.2)) (fun F=> ?_) (zbw.bind hc (zm3 hc cx ops e m) fun p=>zbw.const fun _ _=>rfl)
  simp only [evC]
  cases zga F cx ops e m<;>rfl
 | .regC ops kill chk,e,m=>zbw.bind hc (zm3 hc cx ops e m) fun p=>zbw.const fun _ _=>rfl
 | .seq a b,e,m=>by
  refine zbw.of_eq (g:=fun F=>(evC F cx a e m).bind fun p=>match p with|(.normal,e',m')=>evC F cx b e' m'|p=>some p) (fun F=> ?_) (zbw.bind hc (zhn cx a e m) fun p=> ?_)
  ·simp only [evC]
   cases evC F cx a e m with
   | none=>rfl
   | some p=>obtain⟨x,e',m'⟩:=p;cases x<;>rfl
  ·obtain⟨x,e',m'⟩:=p
   cases x with
   | normal=>exact zhn cx b e' m'
   | _=>exact zbw.const fun _ _=>rfl
 | .cond c a b,e,m=>by
  simp only [evC]
  split
  ·exact zkz (zhn cx a e m) (zhn cx b e m)
  ·exact zbw.const fun _ _=>rfl
 | .block id c,e,m=>by
  refine zbw.of_eq (g:=fun F=>(evC F cx c e m).bind fun p=>match p with|(.exit j,e',m')=>if j=id then some (.normal,e',m') else some (.exit j,e',m')|p=>some p) (fun F=> ?_) (zbw.bind hc (zhn cx c e m) fun p=>zbw.const fun _ _=>rfl)
  simp only [evC]
  cases evC F cx c e m with
  | none=>rfl
  | some p=>obtain⟨x,e',m'⟩:=p;cases x<;>rfl
 | .loop live c,e,m=>by
  refine zbw.of_eq (g:=fun F=>(F (.loop cx live (ziy m) c (only live e) (gc (ziy m) (only live e) m))).bind ykm) (fun F=> ?_) (zbw.bind hc (zbw.query hc _) fun p=>zbw.const fun _ _=>rfl)
  simp only [evC]
  cases F (.loop cx live (ziy m) c (only live e) (gc (ziy m) (only live e) m)) with
  | none=>rfl
  | some r=>cases r<;>rfl
 | .rangeM pre it x out nxt pair live ops kill code,e,m=>by
  simp only [evC]
  exact zbw.bind hc (zm3 hc cx pre e m) fun p=>z3v hc (fun e m=>zbw.bind hc (zm3 hc cx ops e m) fun q=>zhn cx code _ _) _ _ _ _ _ _ _ _ _
 | .rangeFn slot f ps a b,e,m=>by
  simp only [evC]
  refine zkz ?_ (zbw.const fun _ _=>rfl)
  cases f.ev e with
  | fn g first caps=>
   refine zbw.of_eq (g:=fun F=>(F (.call cx.nx g (first ++[.yld (newId cx slot m)]++caps) (upd m (newId cx slot m) (.loop e ps a b cx.lv false false none)))).bind (ygk cx (newId cx slot m) e)) (fun F=> ?_) (zbw.bind hc (zbw.query hc _) fun p=>zbw.const fun _ _=>rfl)
   simp only
   cases F (.call cx.nx g (first ++[.yld (newId cx slot m)]++caps) (upd m (newId cx slot m) (.loop e ps a b cx.lv false false none))) with
   | none=>rfl
   | some r=>cases r<;>rfl
  | _=>exact zbw.const fun _ _=>rfl
theorem z3w (Γ:Nat->Option CF) (X:Extern) (q:Req):zbw It E (fun F=>step Γ X F q):=by
 cases q with
 | call lv f args m=>
  simp only [step]
  cases X f with
  | some x=>exact zbw.const fun _ _=>rfl
  | none=>
   cases Γ f with
   | none=>exact zbw.const fun _ _=>rfl
   | some cf=>
    refine zbw.of_eq (g:=fun F=>(evC F ⟨lv,lv+1⟩ cf.body (params 0 args) m).bind fun p=>match p with|(.normal,e,m')=>(results m' e cf.results).map fun v=> .val v m'|(.ret,e,m')=>(results m' e cf.results).map fun v=> .val v m'|_=>none) (fun F=> ?_) (zbw.bind hc (zhn hc _ _ _ _) fun p=>zbw.const fun _ _=>rfl)
    simp only
    cases evC F ⟨lv,lv+1⟩ cf.body (params 0 args) m with
    | none=>rfl
    | some p=>obtain⟨x,e',m'⟩:=p;cases x<;>rfl
 | round nx o args m=>
  simp only [step]
  split
  ·rename_i e ps a b lv j hl
   refine zkz ?_ (zbw.const fun _ _=>rfl)
   refine zbw.of_eq (g:=fun F=>(evC F ⟨lv,nx⟩ a (yjr ps args e) m).bind fun p=>match p with
    | (.normal,e1,m1)=>(match look m1 o with
     | some (.loop e' ps' a' b' lv' false false j')=>(evC F ⟨lv,nx⟩ b e1 (upd m1 o (.loop e' ps' a' b' lv' true false j'))).bind fun p=>match p with
      | (x,_,m2)=>match look m2 o with
       | some (.loop e' ps' a' b' lv' true false _)=>(match x with
        | .normal=>some (.val (.d (.bool true)) (gc (ziy m) [] (upd m2 o (.loop e' ps' a' b' lv' false false none))))
        | .exit id=>some (.val (.d (.bool false)) (upd m2 o (.loop e' ps' a' b' lv' false true (some (.exit id)))))
        | .ret=>some (.val (.d (.bool false)) (upd m2 o (.loop e' ps' a' b' lv' false true (some .ret)))))
       | _=>none
     | _=>none)
    | _=>none) (fun F=> ?_) (zbw.bind hc (zhn hc _ _ _ _) fun p=> ?_)
   ·simp only
    cases evC F ⟨lv,nx⟩ a (yjr ps args e) m with
    | none=>rfl
    | some p=>
     obtain⟨x,e',m'⟩:=p
     cases x with
     | normal=>
      simp only [Option.bind]
      split
      ·rename_i e2 ps2 a2 b2 lv2 j2 hlk
       simp only [hlk]
       cases evC F ⟨lv,nx⟩ b e' (upd m' o (.loop e2 ps2 a2 b2 lv2 true false j2)) with
       | none=>rfl
       | some p=>rfl
      ·rename_i hno
       split
       ·rename_i hlk
        exact absurd hlk (hno _ _ _ _ _ _)
       ·rfl
     | exit id=>rfl
     | ret=>rfl
   ·obtain⟨x,e1,m1⟩:=p
    cases x with
    | normal=>
     simp only
     split
     ·exact zbw.bind hc (zhn hc _ _ _ _) fun p=>zbw.const fun _ _=>rfl
     ·exact zbw.const fun _ _=>rfl
    | _=>exact zbw.const fun _ _=>rfl
  ·exact zbw.const fun _ _=>rfl
 | loop cx live keep body e m=>
  simp only [step]
  refine zbw.of_eq (g:=fun F=>(evC F cx body e m).bind fun p=>match p with|(.normal,e',m')=>F (.loop cx live keep body (only live e') (gc keep (only live e') m'))|(x,e',m')=>some (.st x e' m')) (fun F=> ?_) (zbw.bind hc (zhn hc _ _ _ _) fun p=> ?_)
  ·cases evC F cx body e m with
   | none=>rfl
   | some p=>obtain⟨x,e',m'⟩:=p;cases x<;>rfl
  ·obtain⟨x,e',m'⟩:=p
   cases x with
   | normal=>exact zbw.query hc _
   | _=>exact zbw.const fun _ _=>rfl
end
structure Lim (Γ:Nat->Option CF) (X:Extern) (E:Oracle):Prop where
 fix:∀q,E q=step Γ X E q
 reach:∀q r,E q=some r->∃n,iter Γ X n q=some r
theorem zyl {Γ:Nat->Option CF} {X:Extern} {F G:Oracle} (h:Le F G):Le (step Γ X F) (step Γ X G):=by
 have hc:z24 (fun _=>G) G:=⟨fun _ _ _ h=>h,fun _ _=>⟨fun h=>⟨0,h⟩,fun h=>h.elim fun _ h=>h⟩⟩
 exact fun q r hr=>(z3w hc Γ X q).mono F G h r hr
theorem z6t (Γ:Nat->Option CF) (X:Extern):∀n,Le (iter Γ X n) (iter Γ X (n+1))
 | 0=>fun _ _ h=>by simp [iter] at h
 | n+1=>zyl (z6t Γ X n)
theorem exists_lim (Γ:Nat->Option CF) (X:Extern):∃E,Lim Γ X E:=by
 have hd:∀q:Req,∃a:Option Res,∀r,a=some r↔∃n,iter Γ X n q=some r:=by
  intro q
  by_cases h:∃r,∃n,iter Γ X n q=some r
  ·obtain⟨r,n,hn⟩:=h
   refine⟨some r,fun r'=>⟨fun h=>⟨n,by rw [hn,h]⟩,fun⟨k,hk⟩=> ?_⟩⟩
   have up:∀a b,a<=b->Le (iter Γ X a) (iter Γ X b):=by
    intro a b hab
    induction hab with
    | refl=>exact fun _ _ h=>h
    | step _ ih=>exact fun q r hq=>z6t Γ X _ q r (ih q r hq)
   rw [<-up n (max n k) (Nat.le_max_left _ _) q r hn,up k (max n k) (Nat.le_max_right _ _) q r' hk]
  ·exact⟨none,fun r=>⟨fun h=>(nomatch h),fun hn=>absurd ⟨r,hn⟩ h⟩⟩
 have ⟨E,hE⟩:=Classical.axiomOfChoice hd
 have hc:z24 (iter Γ X) E:=⟨z6t Γ X,hE⟩
 refine⟨E,⟨fun q=> ?_,fun q r h=>(hE q r).1 h⟩⟩
 apply Option.ext
 intro r
 constructor
 ·intro h
  obtain⟨n,hn⟩:=(hE q r).1 h
  cases n with
  | zero=>simp [iter] at hn
  | succ n=>exact zyl (fun q r h=>(hE q r).2 ⟨n,h⟩) q r hn
 ·intro h
  obtain⟨n,hn⟩:=(z3w hc Γ X q).reach r h
  exact(hE q r).2 ⟨n+1,hn⟩
theorem Lim.of_iter {Γ:Nat->Option CF} {X:Extern} {E:Oracle} (h:Lim Γ X E):∀(n:Nat) (q:Req) (r:Res),iter Γ X n q=some r->E q=some r
 | 0,_,_,hn=>by simp [iter] at hn
 | n+1,q,r,hn=>by
  rw [h.fix]
  exact zyl (fun q r=>h.of_iter n q r) q r hn
end Go.Evl
namespace Go.Evl
structure zju (p k:Prop):Prop where
 need:p
 go:k
structure Br (t:Bool) (a b:Prop):Prop where
 yes:t=true->a
 no:t=false->b
structure Cmp (p a b:Prop):Prop where
 yes:p->a
 no:¬p->b
structure Wr (k:IntKind) (x:Int) (K:Int->Prop):Prop where
 go:K (k.wrap x)
structure Rem (a b:Int) (K:Int->Prop):Prop where
 ne:b≠0
 go:K (a.tmod b)
structure Quo (k:IntKind) (a b:Int) (K:Int->Prop):Prop where
 ne:b≠0
 go:K (k.wrap (a.tdiv b))
structure ziz (cs:List D) (off:Nat) (K:D->Prop):Prop where
 got:∃d,cs[off]? =some d/\K d
structure yap (cs:List V) (off:Nat) (K:V->Prop):Prop where
 got:∃d,cs[off]? =some d/\K d
structure zgd (cs:List D) (off n:Nat) (K:List D->Prop):Prop where
 le:off+n<=cs.length
 go:K (win cs off n)
structure z50 (s:List UInt8) (i:Nat) (K:UInt8->Prop):Prop where
 got:∃b,s[i]? =some b/\K b
structure ztq {α:Type} (o:Option α) (K:α->Prop):Prop where
 got:∃a,o=some a/\K a
def Fc (E:Oracle) (f:Nat) (args:List V) (r:V):Prop:=∃v m',E (.call 0 f args [])=some (.val v m')/\z73 m' v=some r
structure za1 (E:Oracle) (f:Nat) (args:List V) (K:V->Prop):Prop where
 got:∃r,Fc E f args r/\K r
structure zgs (E:Oracle) (f:Nat) (args:List V) (cx:Cx) (slot:Nat) (m:Mem) (K:V->Mem->Prop):Prop where
 got:∃v m' p,E (.call 0 f args [])=some (.val v m')/\settle cx slot 0 m m' v=some p/\K p.1 p.2
structure In (E:Oracle) (lv f:Nat) (args:List V) (m:Mem) (K:V->Mem->Prop):Prop where
 got:∃v m',E (.call lv f args m)=some (.val v m')/\K v m'
structure Rnd (E:Oracle) (nx:Nat) (o:Id) (args:List V) (m:Mem) (K:V->Mem->Prop):Prop where
 got:∃v m',E (.round nx o args m)=some (.val v m')/\K v m'
structure zal (E:Oracle) (cx:Cx) (live:List Nat) (keep:List Id) (body:C) (e:Env) (m:Mem) (K:Ex->Env->Mem->Prop):Prop where
 got:∃x e' m',E (.loop cx live keep body e m)=some (.st x e' m')/\K x e' m'
structure Chk (b:Bool) (k:Prop):Prop where
 need:b=true
 go:k
structure Ret (a b:V):Prop where
 eq:a=b
def yfi:Env->Nat->(V->Prop)->Prop
 | [],_,K=>K .undef
 | (u,v)::r,t,K=>match Nat.beq u t with
  | true=>K v
  | false=>yfi r t K
theorem zo8:∀(e:Env) (t:Nat) (K:V->Prop),yfi e t K=K (get e t)
 | [],_,_=>rfl
 | (u,v)::r,t,K=>by
  simp only [yfi,get]
  cases h:Nat.beq u t with
  | true=>simp [Nat.eq_of_beq_eq_true h]
  | false=>
   have:u≠t:=fun hh=>by rw [hh,Nat.beq_refl] at h;cases h
   simp only [if_neg this]
   exact zo8 r t K
def opK (e:Env) (x:Opd) (K:V->Prop):Prop:=
 match x with
 | .t n=>yfi e n K
 | .k v=>K v
theorem zbx (e:Env) (x:Opd) (K:V->Prop):opK e x K=K (x.ev e):=by
 cases x with
 | t n=>exact zo8 e n K
 | k v=>rfl
def z5x (e:Env):List Opd->(List V->Prop)->Prop
 | [],K=>K []
 | x::r,K=>opK e x fun v=>z5x e r fun vs=>K (v::vs)
theorem zjm (e:Env):∀(l:List Opd) (K:List V->Prop),z5x e l K=K (evs e l)
 | [],_=>rfl
 | x::r,K=>by simp only [z5x,evs,zbx,zjm e r]
def ya2 (e:Env):List Nat->(List V->Prop)->Prop
 | [],K=>K []
 | t::r,K=>yfi e t fun v=>ya2 e r fun vs=>K (v::vs)
theorem zv1 (e:Env):∀(l:List Nat) (K:List V->Prop),ya2 e l K=K (l.map (get e))
 | [],_=>rfl
 | t::r,K=>by simp only [ya2,zo8,zv1 e r,List.map_cons]
def opK? (e:Env) (x:Option Opd) (K:Option V->Prop):Prop:=
 match x with
 | none=>K none
 | some x=>opK e x fun v=>K (some v)
theorem opK?_eq (e:Env) (x:Option Opd) (K:Option V->Prop):opK? e x K=K (x.map (·.ev e)):=by
 cases x with
 | none=>rfl
 | some x=>exact zbx e x _
def yj0:Env->Nat->V->(Env->Prop)->Prop
 | [],t,v,K=>K [(t,v)]
 | (u,x)::r,t,v,K=>match Nat.beq u t with
  | true=>K ((t,v)::r)
  | false=>yj0 r t v fun r'=>K ((u,x)::r')
theorem z2i:∀(e:Env) (t:Nat) (v:V) (K:Env->Prop),yj0 e t v K=K (put e t v)
 | [],_,_,_=>rfl
 | (u,x)::r,t,v,K=>by
  simp only [yj0,put]
  cases h:Nat.beq u t with
  | true=>simp [Nat.eq_of_beq_eq_true h]
  | false=>
   have:u≠t:=fun hh=>by rw [hh,Nat.beq_refl] at h;cases h
   simp only [if_neg this]
   exact z2i r t v _
def put?K (e:Env) (t:Option Nat) (v:V) (K:Env->Prop):Prop:=
 match t with
 | none=>K e
 | some t=>yj0 e t v K
theorem put?K_eq (e:Env) (t:Option Nat) (v:V) (K:Env->Prop):put?K e t v K=K (put? e t v):=by
 cases t with
 | none=>rfl
 | some t=>exact z2i e t v K
def ylg:List Nat->Nat->Bool
 | [],_=>false
 | u::r,t=>match Nat.beq u t with
  | true=>true
  | false=>ylg r t
theorem ydp:∀(l:List Nat) (t:Nat),ylg l t=l.elem t
 | [],_=>rfl
 | u::r,t=>by
  simp only [ylg]
  cases h:Nat.beq u t with
  | true=>simp [Nat.eq_of_beq_eq_true h]
  | false=>
   have:t≠u:=fun hh=>by rw [hh,Nat.beq_refl] at h;cases h
   simp only [ydp r t,List.elem_cons]
   have:(t==u)=false:=by simpa using this
   rw [this]
def zqd (kill:List Nat):Env->(Env->Prop)->Prop
 | [],K=>K []
 | (u,v)::r,K=>match ylg kill u with
  | true=>zqd kill r K
  | false=>zqd kill r fun r'=>K ((u,v)::r')
theorem zn8 (kill:List Nat):∀(e:Env) (K:Env->Prop),zqd kill e K=K (zb2 kill e)
 | [],_=>rfl
 | (u,v)::r,K=>by
  simp only [zqd,ydp]
  cases h:kill.elem u with
  | true=>
   have hm:u∈kill:=by simpa using h
   simp only [zn8 kill r];simp [zb2,hm]
  | false=>
   have hm:u∉kill:=by simpa using h
   simp only [zn8 kill r];simp [zb2,hm]
def yd3 (e:Env):List Nat->(Env->Prop)->Prop
 | [],K=>K []
 | t::r,K=>yfi e t fun v=>yd3 e r fun r'=>K ((t,v)::r')
theorem z2f (e:Env):∀(live:List Nat) (K:Env->Prop),yd3 e live K=K (only live e)
 | [],_=>rfl
 | t::r,K=>by simp only [yd3,zo8,z2f e r];rfl
def idB (i j:Id):Bool:=
 match Nat.beq i.slot j.slot with
 | true=>(match Nat.beq i.lv j.lv with
  | true=>Nat.beq i.k j.k
  | false=>false)
 | false=>false
theorem z1t {i j:Id} (h:idB i j=true):i=j:=by
 obtain⟨a,b,c⟩:=i
 obtain⟨x,y,z⟩:=j
 simp only [idB] at h
 split at h
 ·rename_i h1
  split at h
  ·rename_i h2
   rw [Nat.eq_of_beq_eq_true h1,Nat.eq_of_beq_eq_true h2,Nat.eq_of_beq_eq_true h]
  ·cases h
 ·cases h
theorem zxr {i j:Id} (h:idB i j=false):i≠j:=by
 rintro rfl
 obtain⟨a,b,c⟩:=i
 simp [idB,Nat.beq_refl] at h
def zke:Mem->Id->(Option Ob->Prop)->Prop
 | [],_,K=>K none
 | (j,o)::r,i,K=>match idB j i with
  | true=>K (some o)
  | false=>zke r i K
theorem zcv:∀(m:Mem) (i:Id) (K:Option Ob->Prop),zke m i K=K (look m i)
 | [],_,_=>rfl
 | (j,o)::r,i,K=>by
  simp only [zke,look]
  cases h:idB j i with
  | true=>simp [z1t h]
  | false=>simp only [if_neg (zxr h)];exact zcv r i K
def zva:Mem->Id->Ob->(Mem->Prop)->Prop
 | [],i,o,K=>K [(i,o)]
 | (j,x)::r,i,o,K=>match idB j i with
  | true=>K ((i,o)::r)
  | false=>zva r i o fun r'=>K ((j,x)::r')
theorem zdq:∀(m:Mem) (i:Id) (o:Ob) (K:Mem->Prop),zva m i o K=K (upd m i o)
 | [],_,_,_=>rfl
 | (j,x)::r,i,o,K=>by
  simp only [zva,upd]
  cases h:idB j i with
  | true=>simp [z1t h]
  | false=>simp only [if_neg (zxr h)];exact zdq r i o _
def yjk (m:Mem) (v:V) (K:Mem->Prop):Prop:=
 match v with
 | .ref o _ _ _=>zke m o fun ob=>
  match ob with
  | some (.row true t sz n xs)=>zva m o (.row false t sz n xs) K
  | _=>K m
 | _=>K m
theorem ygt (m:Mem) (v:V) (K:Mem->Prop) (h:yjk m v K):K (yeq m v):=by
 cases v with
 | ref o a b c=>
  simp only [yjk,zcv] at h
  simp only [yeq]
  cases hl:look m o with
  | none=>simp only [hl] at h;exact h
  | some ob=>
   simp only [hl] at h
   cases ob with
   | row wr t sz n xs=>
    cases wr with
    | true=>simp only [zdq] at h;exact h
    | false=>exact h
   | _=>exact h
 | _=>exact h
def z9n:List Id->Id->Bool
 | [],_=>false
 | u::r,t=>match idB u t with
  | true=>true
  | false=>z9n r t
theorem ydo:∀(l:List Id) (t:Id),z9n l t=l.elem t
 | [],_=>rfl
 | u::r,t=>by
  simp only [z9n]
  cases h:idB u t with
  | true=>simp [z1t h]
  | false=>
   have h':t≠u:=fun hh=>zxr h hh.symm
   simp only [ydo r t,List.elem_cons]
   have:(t==u)=false:=by simpa using h'
   rw [this]
def gcF (a b c:List Id):Mem->(Mem->Prop)->Prop
 | [],K=>K []
 | (i,o)::r,K=>match z9n a i with
  | true=>gcF a b c r fun r'=>K ((i,o)::r')
  | false=>(match z9n b i with
   | true=>gcF a b c r fun r'=>K ((i,o)::r')
   | false=>(match z9n c i with
    | true=>gcF a b c r fun r'=>K ((i,o)::r')
    | false=>gcF a b c r K))
theorem yhj (a b c:List Id):∀(m:Mem) (K:Mem->Prop),gcF a b c m K=K (m.filter fun p=>a.elem p.1||b.elem p.1||c.elem p.1)
 | [],_=>rfl
 | (i,o)::r,K=>by
  simp only [gcF,ydo]
  cases ha:a.elem i<;>cases hb:b.elem i<;>cases hc:c.elem i<;>simp only [yhj a b c r,List.filter_cons,ha,hb,hc]<;>rfl
def gcK (keep:List Id) (e:Env) (m:Mem) (K:Mem->Prop):Prop:=
 match m with
 | []=>K []
 | _::_=>gcF keep (idsE e) (idsAll m) m fun m1=>gcF keep (idsE e) (idsAll m1) m1 fun m2=>gcF keep (idsE e) (idsAll m2) m2 K
theorem yc9 (keep:List Id) (e:Env) (m:Mem) (K:Mem->Prop):gcK keep e m K=K (gc keep e m):=by
 cases m with
 | nil=>rfl
 | cons p r=>simp only [gcK,yhj];rfl
def zzt (lv slot:Nat):Mem->(Nat->Prop)->Prop
 | [],K=>K 0
 | (j,_)::r,K=>match Nat.beq j.slot slot with
  | true=>(match Nat.beq j.lv lv with
   | true=>zzt lv slot r fun n=>K (max (j.k+1) n)
   | false=>zzt lv slot r K)
  | false=>zzt lv slot r K
theorem zsp (lv slot:Nat):∀(m:Mem) (K:Nat->Prop),zzt lv slot m K=K (freeK lv slot m)
 | [],_=>rfl
 | (j,o)::r,K=>by
  simp only [zzt,freeK]
  cases h1:Nat.beq j.slot slot with
  | false=>
   have:j.slot≠slot:=fun hh=>by rw [hh,Nat.beq_refl] at h1;cases h1
   simp only [this,and_false,if_false]
   exact zsp lv slot r K
  | true=>
   cases h2:Nat.beq j.lv lv with
   | false=>
    have:j.lv≠lv:=fun hh=>by rw [hh,Nat.beq_refl] at h2;cases h2
    simp only [this,false_and,if_false]
    exact zsp lv slot r K
   | true=>simp only [Nat.eq_of_beq_eq_true h1,Nat.eq_of_beq_eq_true h2,and_self,if_true,zsp lv slot r]
def ycb (cx:Cx) (slot:Nat) (m:Mem) (K:Id->Prop):Prop:=zzt cx.lv slot m fun n=>K ⟨cx.lv,slot,n⟩
theorem zlp (cx:Cx) (slot:Nat) (m:Mem) (K:Id->Prop):ycb cx slot m K=K (newId cx slot m):=zsp _ _ _ _
def z6s (cx:Cx) (slot:Nat):List z5y->Mem->(List V->Mem->Prop)->Prop
 | [],m,K=>K [] m
 | .z x::r,m,K=>z6s cx slot r m fun vs m'=>K (.d x::vs) m'
 | .own s::r,m,K=>ycb cx slot m fun i=>zva m i (.row s.wr s.t s.sz 0 []) fun m1=>z6s cx slot r m1 fun vs m'=>K (.ref i 0 0 0::vs) m'
theorem zv2 (cx:Cx) (slot:Nat):∀(l:List z5y) (m:Mem) (K:List V->Mem->Prop),z6s cx slot l m K=K (zbg cx slot l m).1 (zbg cx slot l m).2
 | [],_,_=>rfl
 | .z x::r,m,K=>by simp only [z6s,zbg,zv2 cx slot r]
 | .own s::r,m,K=>by simp only [z6s,zbg,zlp,zdq,zv2 cx slot r]
mutual
def zf0 (any:Bool) (m:Mem):V->(D->Prop)->Prop
 | .d x,K=>K x
 | .cl n cs,K=>K (.list n cs)
 | .agg cs,K=>zsq any m cs fun ds=>K (.agg ds)
 | .fn f [] [],K=>K (.fn f)
 | .ref o off len top,K=>zke m o fun x=>
  match x with
  | some (.row wr _ sz n xs)=>
   (match (!wr||any) with
   | true=>zju (n=top/\off+len<=n) (K (.list len (if off=0/\len=n then xs else win xs (off*sz) (len*sz))))
   | false=>False)
  | _=>False
 | _,_=>False
def zsq (any:Bool) (m:Mem):List V->(List D->Prop)->Prop
 | [],K=>K []
 | v::r,K=>zf0 any m v fun d=>zsq any m r fun ds=>K (d::ds)
end
mutual
theorem zm4 (any:Bool) (m:Mem):∀(v:V) (K:D->Prop),zf0 any m v K->∃d,freeze any m v=some d/\K d
 | .d x,K,h=>⟨x,rfl,h⟩
 | .agg cs,K,h=>by
  obtain⟨ds,h1,h2⟩:=znt any m cs _ h
  exact⟨_,by simp only [freeze,h1];rfl,h2⟩
 | .ref o off len top,K,h=>by
  simp only [zf0,zcv] at h
  simp only [freeze]
  cases hl:look m o with
  | none=>rw [hl] at h;exact h.elim
  | some x=>
   rw [hl] at h
   cases x with
   | row wr t sz n xs=>
    simp only at h ⊢
    split at h
    ·rename_i hw
     have hc:(wr=false\/any=true)/\n=top/\off+len<=n:=⟨by cases wr<;>simp_all,h.need⟩
     exact⟨_,if_pos hc,h.go⟩
    ·exact h.elim
   | _=>exact h.elim
 | .tup _,_,h=>(by simp only [zf0] at h)
 | .ptr ..,_,h=>(by simp only [zf0] at h)
 | .lptr ..,_,h=>(by simp only [zf0] at h)
 | .cl n cs,K,h=>⟨_,rfl,h⟩
 | .fn f [] [],K,h=>⟨_,rfl,h⟩
 | .fn _ (_::_) _,_,h=>(by simp only [zf0] at h)
 | .fn _ [] (_::_),_,h=>(by simp only [zf0] at h)
 | .yld _,_,h=>(by simp only [zf0] at h)
 | .mp _,_,h=>(by simp only [zf0] at h)
 | .it _,_,h=>(by simp only [zf0] at h)
 | .skip,_,h=>(by simp only [zf0] at h)
 | .undef,_,h=>(by simp only [zf0] at h)
theorem znt (any:Bool) (m:Mem):∀(vs:List V) (K:List D->Prop),zsq any m vs K->∃ds,zdo any m vs=some ds/\K ds
 | [],K,h=>⟨[],rfl,h⟩
 | v::r,K,h=>by
  obtain⟨d,h1,h2⟩:=zm4 any m v _ h
  obtain⟨ds,h3,h4⟩:=znt any m r _ h2
  exact⟨d::ds,by simp only [zdo,h1,h3],h4⟩
end
def yjt:List D->(List V->Prop)->Prop
 | [],K=>K []
 | x::r,K=>yjt r fun vs=>K (.d x::vs)
theorem z02:∀(l:List D) (K:List V->Prop),yjt l K=K (asV l)
 | [],_=>rfl
 | x::r,K=>by simp only [yjt,asV,z02 r]
def yg3 (m:Mem) (v:V) (K:V->Prop):Prop:=
 match v with
 | .tup vs=>zsq true m vs fun xs=>yjt xs fun ys=>K (.tup ys)
 | v=>zf0 true m v fun d=>K (.d d)
theorem yan (m:Mem) (v:V) (K:V->Prop) (h:yg3 m v K):∃r,z73 m v=some r/\K r:=by
 have simple:∀v:V,(∀vs,v≠ .tup vs)->zf0 true m v (fun d=>K (.d d))->∃r,z73 m v=some r/\K r:=by
  intro v hv h
  obtain⟨d,h1,h2⟩:=zm4 true m v _ h
  refine⟨.d d,?_,h2⟩
  unfold z73
  split
  ·rename_i vs;exact absurd rfl (hv vs)
  ·rw [h1];rfl
 cases v with
 | tup vs=>
  obtain⟨xs,h1,h2⟩:=znt true m vs _ h
  rw [z02] at h2
  exact⟨_,by simp only [z73,h1];rfl,h2⟩
 | _=>exact simple _ (by intro vs hh;cases hh) h
def yfr:List V->(Option (List D)->Prop)->Prop
 | [],K=>K (some [])
 | .d x::r,K=>yfr r fun o=>
  match o with
  | some ds=>K (some (x::ds))
  | none=>K none
 | _::_,K=>K none
theorem z8c:∀(l:List V) (K:Option (List D)->Prop),yfr l K=K (zqe l)
 | [],_=>rfl
 | v::r,K=>by
  cases v with
  | d x=>simp only [yfr,zqe,z8c r];cases zqe r<;>rfl
  | _=>rfl
def ylb (cs:List V) (K:V->Prop):Prop:=yfr cs fun o=>
 match o with
 | some ds=>K (.d (.agg ds))
 | none=>K (.agg cs)
theorem ych (cs:List V) (K:V->Prop):ylb cs K=K (z60 cs):=by
 simp only [ylb,z8c,z60]
 cases zqe cs<;>rfl
def z3j (v:V) (K:List V->Prop):Prop:=
 match v with
 | .d (.agg cs)=>yjt cs K
 | .agg cs=>K cs
 | .tup _=>False
 | .skip=>False
 | .undef=>False
 | v=>K [v]
theorem zw7 (v:V) (K:List V->Prop) (h:z3j v K):∃cs,cellsOf v=some cs/\K cs:=by
 cases v with
 | d x=>
  cases x with
  | agg cs=>simp only [z3j,z02] at h;exact⟨_,rfl,h⟩
  | _=>exact⟨_,rfl,h⟩
 | tup _=>exact h.elim
 | skip=>exact h.elim
 | undef=>exact h.elim
 | _=>exact⟨_,rfl,h⟩
def over {α:Type}:List α->Nat->List α->List α
 | cs,0,[]=>cs
 | _::cs,0,x::xs=>x::over cs 0 xs
 | c::cs,n+1,xs=>c::over cs n xs
 | [],_,_=>[]
theorem z4u {α:Type}:∀(cs xs:List α),xs.length<=cs.length->over cs 0 xs=xs++cs.drop xs.length
 | cs,[],_=>by simp [over]
 | [],x::xs,h=>by simp at h
 | c::cs,x::xs,h=>by
  simp only [over,z4u cs xs (by simpa using h)]
  simp
theorem z7c {α:Type}:∀(cs:List α) (off:Nat) (xs:List α),off+xs.length<=cs.length->over cs off xs=patch cs off xs
 | cs,0,xs,h=>by
  rw [z4u cs xs (by omega)]
  simp [patch]
 | [],n+1,xs,h=>by simp at h
 | c::cs,n+1,xs,h=>by
  simp only [over,z7c cs n xs (by simp at h;omega),patch]
  simp [Nat.add_right_comm]
def zy6 {α:Type}:List α->Nat->List α->(List α->Prop)->Prop
 | cs,0,[],K=>K cs
 | _::cs,0,x::xs,K=>zy6 cs 0 xs fun r=>K (x::r)
 | c::cs,n+1,xs,K=>zy6 cs n xs fun r=>K (c::r)
 | [],_,_,K=>K []
theorem zv6 {α:Type}:∀(cs:List α) (off:Nat) (xs:List α) (K:List α->Prop),zy6 cs off xs K=K (over cs off xs)
 | cs,0,[],K=>by simp only [zy6,over]
 | [],0,x::xs,K=>by simp only [zy6,over]
 | c::cs,0,x::xs,K=>by simp only [zy6,over,zv6 cs 0 xs]
 | [],n+1,xs,K=>by simp only [zy6,over]
 | c::cs,n+1,xs,K=>by simp only [zy6,over,zv6 cs n xs]
def yif (cs:List V):List (Nat×Nat×V)->(List V->Prop)->Prop
 | [],K=>K cs
 | (off,n,v)::r,K=>z3j v fun xs=>
  match Nat.beq xs.length n with
  | true=>(match Nat.ble (off+n) cs.length with
   | true=>zy6 cs off xs fun cs'=>yif cs' r K
   | false=>False)
  | false=>False
theorem z8y:∀(l:List (Nat×Nat×V)) (cs:List V) (K:List V->Prop),yif cs l K->∃cs',z32 cs l=some cs'/\K cs'
 | [],cs,K,h=>⟨cs,rfl,h⟩
 | (off,n,v)::r,cs,K,h=>by
  obtain⟨xs,h1,h2⟩:=zw7 v _ h
  split at h2
  ·rename_i e1
   split at h2
   ·rename_i e2
    have e1':=Nat.eq_of_beq_eq_true e1
    have e2':=Nat.le_of_ble_eq_true e2
    rw [zv6] at h2
    obtain⟨cs',h3,h4⟩:=z8y r _ K h2
    refine⟨cs',?_,h4⟩
    simp only [z32,h1]
    rw [if_pos ⟨e1',e2'⟩,<-z7c cs off xs (by omega)]
    exact h3
   ·exact h2.elim
  ·exact h2.elim
def z9v (e:Env):List (Nat×Nat×Opd)->(List (Nat×Nat×V)->Prop)->Prop
 | [],K=>K []
 | (a,b,x)::r,K=>opK e x fun v=>z9v e r fun l=>K ((a,b,v)::l)
theorem z4v (e:Env):∀(l:List (Nat×Nat×Opd)) (K:List (Nat×Nat×V)->Prop),z9v e l K=K (zs6 e l)
 | [],_=>rfl
 | (a,b,x)::r,K=>by simp only [z9v,zs6,zbx,z4v e r]
def z6d (m:Mem) (v:V) (K:List D->Prop):Prop:=zf0 false m v fun d=>
 match d with
 | .agg cs=>K cs
 | x=>K [x]
theorem zzl (m:Mem) (v:V) (K:List D->Prop) (h:z6d m v K):∃cs,zn9 m v=some cs/\K cs:=by
 obtain⟨d,h1,h2⟩:=zm4 false m v _ h
 unfold zn9
 rw [h1]
 cases d<;>exact⟨_,rfl,h2⟩
def z4g (sz:Nat) (m:Mem):List V->(List D->Prop)->Prop
 | [],K=>K []
 | v::r,K=>z6d m v fun x=>match Nat.beq x.length sz with
  | true=>z4g sz m r fun xs=>K (x++xs)
  | false=>False
theorem zsx (sz:Nat) (m:Mem):∀(l:List V) (K:List D->Prop),z4g sz m l K->∃ds,zon sz m l=some ds/\K ds
 | [],K,h=>⟨[],rfl,h⟩
 | v::r,K,h=>by
  obtain⟨x,h1,h2⟩:=zzl m v _ h
  split at h2
  ·rename_i e
   obtain⟨xs,h3,h4⟩:=zsx sz m r _ h2
   refine⟨x++xs,?_,h4⟩
   simp only [zon,h1,h3,if_pos (Nat.eq_of_beq_eq_true e)]
  ·exact h2.elim
structure z23 (n:Nat) (l h:Int) (K:Nat->Nat->Prop):Prop where
 ok:0<=h/\h<=n/\0<=l/\l<=h
 go:K l.toNat h.toNat
def ztw (n:Nat) (lo hi:Option V) (K:Nat->Nat->Prop):Prop:=
 match lo,hi with
 | none,none=>K 0 n
 | some (.d (.int _ l)),none=>z23 n l n K
 | none,some (.d (.int _ h))=>z23 n 0 h K
 | some (.d (.int _ l)),some (.d (.int _ h))=>z23 n l h K
 | _,_=>False
theorem zpt (n:Nat) (lo hi:Option V) (K:Nat->Nat->Prop) (h:ztw n lo hi K):∃p,zb8 n lo hi=some p/\K p.1 p.2:=by
 unfold ztw at h
 split at h
 ·refine⟨(0,n),?_,h⟩
  simp [zb8]
 ·rename_i k l
  refine⟨(l.toNat,(n:Int).toNat),?_,h.go⟩
  simp only [zb8,asI]
  exact if_pos h.ok
 ·rename_i k l
  refine⟨((0:Int).toNat,l.toNat),?_,h.go⟩
  simp only [zb8,asI]
  exact if_pos h.ok
 ·rename_i k l k' l'
  refine⟨(l.toNat,l'.toNat),?_,h.go⟩
  simp only [zb8,asI]
  exact if_pos h.ok
 ·exact h.elim
def yd7 (n:Option Nat) (cs:List V) (off:Nat) (K:V->Prop):Prop:=
 match n with
 | none=>yap cs off K
 | some n=>zju (off+n<=cs.length) (ylb (win cs off n) K)
theorem z4y (n:Option Nat) (cs:List V) (off:Nat) (K:V->Prop) (h:yd7 n cs off K):∃v,ybf n cs off=some v/\K v:=by
 cases n with
 | none=>obtain⟨d,h1,h2⟩:=h.got;exact⟨d,h1,h2⟩
 | some n=>obtain⟨h1,h2⟩:=h;rw [ych] at h2;exact⟨_,if_pos h1,h2⟩
def z4x (n:Option Nat) (cs:List D) (off:Nat) (K:V->Prop):Prop:=
 match n with
 | none=>ziz cs off fun d=>K (.d d)
 | some n=>zgd cs off n fun ds=>K (.d (.agg ds))
theorem zs8 (n:Option Nat) (cs:List D) (off:Nat) (K:V->Prop) (h:z4x n cs off K):∃v,zy7 n cs off=some v/\K v:=by
 cases n with
 | none=>obtain⟨d,h1,h2⟩:=h.got;exact⟨_,by simp only [zy7,h1];rfl,h2⟩
 | some n=>obtain⟨h1,h2⟩:=h;exact⟨_,if_pos h1,h2⟩
def yf8 (n:Option Nat) (m:Mem) (a:V) (K:V->Prop):Prop:=
 match a with
 | .lptr cs off=>z4x n cs off K
 | .ptr o off top=>zke m o fun x=>
  match x with
  | some (.cells _ cs)=>yd7 n cs off K
  | some (.row _ _ _ l xs)=>zju (l=top) (z4x n xs off K)
  | _=>False
 | _=>False
theorem z9j (n:Option Nat) (m:Mem) (a:V) (K:V->Prop) (h:yf8 n m a K):∃v,zx0 n m a=some v/\K v:=by
 unfold yf8 at h
 split at h
 ·exact zs8 _ _ _ _ h
 ·rename_i o off top
  rw [zcv] at h
  simp only [zx0]
  split at h
  ·rename_i hl;rw [hl];exact z4y _ _ _ _ h
  ·rename_i hl;rw [hl]
   obtain⟨v,h1,h2⟩:=zs8 _ _ _ _ h.go
   exact⟨v,(if_pos h.need).trans h1,h2⟩
  ·exact h.elim
 ·exact h.elim
def yaj (n:Nat) (m:Mem) (a x:V) (K:Mem->Prop):Prop:=
 match a with
 | .ptr o off top=>zke m o fun y=>
  match y with
  | some (.cells t cs)=>z3j x fun xs=>zju (xs.length=n/\off+n<=cs.length) (zy6 cs off xs fun cs'=>zva m o (.cells t cs') K)
  | some (.row true t sz l xs)=>z6d m x fun ds=>zju (ds.length=n/\off+n<=xs.length/\l=top) (zva m o (.row true t sz l (patch xs off ds)) K)
  | _=>False
 | _=>False
theorem z5m (n:Nat) (m:Mem) (a x:V) (K:Mem->Prop) (h:yaj n m a x K):∃m',ztk n m a x=some m'/\K m':=by
 unfold yaj at h
 split at h
 ·rename_i o off top
  rw [zcv] at h
  simp only [ztk]
  split at h
  ·rename_i hl;rw [hl]
   obtain⟨xs,h1,h2,h3⟩:=zw7 x _ h
   rw [zv6,zdq,z7c _ _ _ (by omega)] at h3
   simp only [h1]
   exact⟨_,if_pos h2,h3⟩
  ·rename_i hl;rw [hl]
   obtain⟨ds,h1,h2,h3⟩:=zzl m x _ h
   rw [zdq] at h3
   simp only [h1]
   exact⟨_,if_pos h2,h3⟩
  ·exact h.elim
 ·exact h.elim
def yex (sz:Nat) (m:Mem) (x:V) (lo hi mx:Option V) (K:V->Prop):Prop:=
 match x with
 | .d (.list n cs)=>ztw n lo hi fun l h=>
  match mx with
  | none=>K (.d (.list (h-l) (win cs (l*sz) ((h-l)*sz))))
  | some _=>zju (hi.isSome/\mx.bind asI=hi.bind asI) (K (.d (.list (h-l) (win cs (l*sz) ((h-l)*sz)))))
 | .ref o off len top=>zke m o fun y=>
  match y with
  | some (.row wr _ sz' n xs)=>zju (n=top/\off+len<=n/\sz'=sz) (ztw len lo hi fun l h=>
   match mx with
   | none=>(match wr with
    | true=>K (.ref o (off+l) (h-l) top)
    | false=>K (.d (.list (h-l) (win xs ((off+l)*sz) ((h-l)*sz)))))
   | some _=>False)
  | _=>False
 | .d .nil=>ztw 0 lo hi fun _ _=>
  match mx with
  | none=>K (.d .nil)
  | some _=>False
 | _=>False
theorem yey (sz:Nat) (m:Mem) (x:V) (lo hi mx:Option V) (K:V->Prop) (h:yex sz m x lo hi mx K):∃v,zq1 sz m x lo hi mx=some v/\K v:=by
 unfold yex at h
 split at h
 ·obtain⟨p,h1,h2⟩:=zpt _ _ _ _ h
  obtain⟨l,hh⟩:=p
  simp only [zq1,h1]
  cases mx with
  | none=>exact⟨_,if_pos (Or.inl rfl),h2⟩
  | some y=>exact⟨_,if_pos (Or.inr h2.need),h2.go⟩
 ·rename_i o off len top
  rw [zcv] at h
  simp only [zq1]
  split at h
  ·rename_i wr t1 sz1 n1 xs1 hl;rw [hl]
   obtain⟨h0,h⟩:=h
   obtain⟨p,h1,h2⟩:=zpt _ _ _ _ h
   obtain⟨l,hh⟩:=p
   simp only [if_pos h0,h1]
   cases mx with
   | none=>
    cases wr with
    | true=>exact⟨_,by simp,h2⟩
    | false=>exact⟨_,by simp,h2⟩
   | some y=>exact h2.elim
  ·exact h.elim
 ·obtain⟨p,h1,h2⟩:=zpt _ _ _ _ h
  simp only [zq1,h1]
  cases mx with
  | none=>exact⟨_,if_pos rfl,h2⟩
  | some y=>exact h2.elim
 ·exact h.elim
def z1w (sz:Nat) (m:Mem) (x i:V) (K:V->Prop):Prop:=
 match i with
 | .d (.int _ i)=>
  (match x with
  | .d (.list n cs)=>zju (0<=i/\i<n) (K (.lptr cs (i.toNat*sz)))
  | .ref o off len top=>zke m o fun y=>
   match y with
   | some (.row _ _ sz' n _)=>zju (0<=i/\i<len/\n=top/\off+len<=n/\sz'=sz) (K (.ptr o ((off+i.toNat)*sz) top))
   | _=>False
  | _=>False)
 | _=>False
theorem z6q (sz:Nat) (m:Mem) (x i:V) (K:V->Prop) (h:z1w sz m x i K):∃v,zk2 sz m x i=some v/\K v:=by
 unfold z1w at h
 split at h
 ·split at h
  ·exact⟨_,if_pos h.need,h.go⟩
  ·rw [zcv] at h
   split at h
   ·rename_i hl;simp only [zk2,asI,hl];exact⟨_,if_pos h.need,h.go⟩
   ·exact h.elim
  ·exact h.elim
 ·exact h.elim
def yga (off:Nat) (m:Mem) (v:V) (K:V->Prop):Prop:=
 match v with
 | .lptr cs b=>K (.lptr cs (b+off))
 | .ptr o b top=>zke m o fun x=>
  match x with
  | some (.cells ..)=>K (.ptr o (b+off) top)
  | some (.row _ _ _ n _)=>zju (n=top) (K (.ptr o (b+off) top))
  | _=>False
 | _=>False
theorem z9q (off:Nat) (m:Mem) (v:V) (K:V->Prop) (h:yga off m v K):∃r,zfi off m v=some r/\K r:=by
 unfold yga at h
 split at h
 ·exact⟨_,rfl,h⟩
 ·rw [zcv] at h
  split at h
  ·rename_i hl;exact⟨_,by simp only [zfi,z22,hl];rfl,h⟩
  ·rename_i hl;exact⟨_,by simp only [zfi,z22,hl,h.need];simp,h.go⟩
  ·exact h.elim
 ·exact h.elim
def yi6 (n:Option Nat) (x:V) (off:Nat) (K:V->Prop):Prop:=
 match x with
 | .d (.agg cs)=>z4x n cs off K
 | .agg cs=>yd7 n cs off K
 | _=>False
theorem ygf (n:Option Nat) (x:V) (off:Nat) (K:V->Prop) (h:yi6 n x off K):∃r,yd6 n x off=some r/\K r:=by
 unfold yi6 at h
 split at h
 ·exact zs8 _ _ _ _ h
 ·exact z4y _ _ _ _ h
 ·exact h.elim
def yl0 (m:Mem) (k:Kd) (v:V) (K:Nat->Prop):Prop:=
 match k with
 | .str=>(match v with
  | .d (.str s)=>K s.length
  | _=>False)
 | .slc=>(match v with
  | .d (.list n _)=>K n
  | .d .nil=>K 0
  | .cl n _=>K n
  | .ref o _ len top=>zke m o fun x=>
   match x with
   | some (.row _ _ _ n _)=>zju (n=top) (K len)
   | _=>False
  | _=>False)
 | .map=>(match v with
  | .mp o=>zke m o fun x=>
   match x with
   | some (.map es)=>K es.length
   | _=>False
  | _=>False)
 | .cap=>(match v with
  | .d .nil=>K 0
  | _=>False)
theorem yio (m:Mem) (k:Kd) (v:V) (K:Nat->Prop) (h:yl0 m k v K):∃n,yca m k v=some n/\K n:=by
 unfold yl0 at h
 split at h
 ·split at h
  ·exact⟨_,rfl,h⟩
  ·exact h.elim
 ·split at h
  ·exact⟨_,rfl,h⟩
  ·exact⟨_,rfl,h⟩
  ·exact⟨_,rfl,h⟩
  ·rw [zcv] at h
   split at h
   ·rename_i hl;exact⟨_,by simp only [yca,hl];exact if_pos h.need,h.go⟩
   ·exact h.elim
  ·exact h.elim
 ·split at h
  ·rw [zcv] at h
   split at h
   ·rename_i hl;exact⟨_,by simp only [yca,hl],h⟩
   ·exact h.elim
  ·exact h.elim
 ·split at h
  ·exact⟨_,rfl,h⟩
  ·exact h.elim
def z3z (m:Mem) (v:V) (K:Nat->List D->Prop):Prop:=
 match v with
 | .d (.list n cs)=>K n cs
 | .d .nil=>K 0 []
 | .ref o off len top=>zke m o fun x=>
  match x with
  | some (.row _ _ sz n xs)=>zju (n=top/\off+len<=n) (K len (if off=0/\len=n then xs else win xs (off*sz) (len*sz)))
  | _=>False
 | _=>False
theorem zxg (m:Mem) (v:V) (K:Nat->List D->Prop) (h:z3z m v K):∃p,zxf m v=some p/\K p.1 p.2:=by
 unfold z3z at h
 split at h
 ·exact⟨_,rfl,h⟩
 ·exact⟨_,rfl,h⟩
 ·rw [zcv] at h
  split at h
  ·rename_i hl;exact⟨_,by simp only [zxf,hl];exact if_pos h.need,h.go⟩
  ·exact h.elim
 ·exact h.elim
def zr6 (cx:Cx) (slot:Nat) (r:zc0) (m:Mem) (k:Nat) (ds:List D) (s:V) (K:V->Mem->Prop):Prop:=
 match s with
 | .ref o off len top=>zke m o fun x=>
  match x with
  | some (.row wr t sz n xs)=>
   zju (off=0/\len=n/\n=top/\t=r.t/\sz=r.sz/\ds.length=k*sz/\(n+k)*r.by_<=140737488355328/\n+k<=140737488355328)
    (zva m o (.row wr t sz (n+k) (xs++ds)) fun m'=>K (.ref o 0 (n+k) (n+k)) m')
  | _=>False
 | .d .nil=>zju (k≠0/\ds.length=k*r.sz/\k*r.by_<=140737488355328/\k<=140737488355328) (ycb cx slot m fun i=>zva m i (.row r.wr r.t r.sz k ds) fun m'=>K (.ref i 0 k k) m')
 | .cl n cs=>zju (k≠0/\ds.length=k*r.sz/\cs.length=n*r.sz/\(n+k)*r.by_<=140737488355328/\n+k<=140737488355328) (ycb cx slot m fun i=>zva m i (.row r.wr r.t r.sz (n+k) (cs++ds)) fun m'=>K (.ref i 0 (n+k) (n+k)) m')
 | _=>False
theorem zq3 (cx:Cx) (slot:Nat) (r:zc0) (m:Mem) (k:Nat) (ds:List D) (s:V) (K:V->Mem->Prop) (h:zr6 cx slot r m k ds s K):
  ∃p,zmh cx slot r m (some (k,ds)) s=some p/\K p.1 p.2:=by
 unfold zr6 at h
 split at h
 ·rw [zcv] at h
  split at h
  ·rename_i hl
   obtain⟨⟨h1,h2,h3,h4,h5,h6,h7,h8⟩,h9⟩:=h
   rw [zdq] at h9
   refine⟨(_,_),?_,h9⟩
   simp only [zmh,hl]
   exact if_pos ⟨h1,h2,h3,h4,h5,h6,by simp [zyg,h7,h8]⟩
  ·exact h.elim
 ·obtain⟨⟨h1,h2,h3,h4⟩,h9⟩:=h
  rw [zlp,zdq] at h9
  refine⟨(_,_),?_,h9⟩
  simp only [zmh]
  exact if_pos ⟨h1,h2,by simp [zyg,h3,h4]⟩
 ·obtain⟨⟨h1,h2,h0,h3,h4⟩,h9⟩:=h
  rw [zlp,zdq] at h9
  refine⟨(_,_),?_,h9⟩
  simp only [zmh]
  exact if_pos ⟨h1,h2,h0,by simp [zyg,h3,h4]⟩
 ·exact h.elim
def eqB:D->D->(Prop->Prop)->Prop
 | .int k a,.int l b,K=>(match decide (k=l) with
  | true=>K (a=b)
  | false=>False)
 | .bool a,.bool b,K=>K (a=b)
 | .str a,.str b,K=>K (a=b)
 | _,_,_=>False
def yic:List D->List D->(Prop->Prop)->Prop
 | [],[],K=>K True
 | [x],[y],K=>eqB x y K
 | x::x2::r,y::y2::s,K=>eqB x y fun p=>yic (x2::r) (y2::s) fun q=>K (p/\q)
 | _,_,_=>False
theorem yhh (x y:D) (K:Prop->Prop) (h:eqB x y K):∃b p,eqD x y=some b/\(b=true↔p)/\K p:=by
 unfold eqB at h
 split at h
 ·split at h
  ·rename_i a _ b _ e
   exact⟨decide (a=b),a=b,by simp only [eqD];exact if_pos (of_decide_eq_true e),by simp,h⟩
  ·exact h.elim
 ·rename_i a b
  exact⟨a==b,a=b,rfl,by simp,h⟩
 ·rename_i a b
  exact⟨a==b,a=b,rfl,by simp,h⟩
 ·exact h.elim
theorem yc0:∀(xs ys:List D) (K:Prop->Prop),yic xs ys K->∃b p,eqL xs ys=some b/\(b=true↔p)/\K p
 | [],[],_,h=>⟨true,True,rfl,by simp,h⟩
 | [x],[y],K,h=>by
  obtain⟨a,p,h1,h2,h3⟩:=yhh x y _ h
  exact⟨a&&true,p,by simp only [eqL,h1],by simpa using h2,h3⟩
 | x::x2::r,y::y2::s,K,h=>by
  obtain⟨a,p,h1,h2,h3⟩:=yhh x y _ h
  obtain⟨b,q,h4,h5,h6⟩:=yc0 (x2::r) (y2::s) _ h3
  refine⟨a&&b,p/\q,?_,by simp [h2,h5],h6⟩
  rw [eqL,h1,h4]
 | [],_::_,_,h=>(by simp only [yic] at h)
 | _::_,[],_,h=>(by simp only [yic] at h)
 | [_],_::_::_,_,h=>(by simp only [yic] at h)
 | _::_::_,[_],_,h=>(by simp only [yic] at h)
def ylw (ks:Option (List KK)) (x y:V) (K:Bool->Prop):Prop:=
 match ks with
 | none=>
  (match x,y with
  | .d (.bool a),.d (.bool b)=>K (a==b)
  | _,_=>False)
 | some ks=>
  (match x,y with
  | .d (.agg a),.d (.agg b)=>
   (match zb4 ks a&&zb4 ks b with
   | true=>yic a b fun p=>Cmp p (K true) (K false)
   | false=>False)
  | _,_=>False)
theorem yid (ks:Option (List KK)) (x y:V) (K:Bool->Prop) (h:ylw ks x y K):∃b,eqV ks x y=some b/\K b:=by
 unfold ylw at h
 split at h
 ·split at h
  ·exact⟨_,rfl,h⟩
  ·exact h.elim
 ·split at h
  ·split at h
   ·rename_i hk
    obtain⟨b,p,h1,h2,h3⟩:=yc0 _ _ _ h
    refine⟨b,by simp only [eqV];rw [if_pos hk];exact h1,?_⟩
    cases b with
    | true=>exact h3.yes (h2.1 rfl)
    | false=>exact h3.no fun hp=>Bool.noConfusion (h2.2 hp)
   ·exact h.elim
  ·exact h.elim
def yh8 (p:Prop) (K:D->Prop):Prop:=Cmp p (K (.bool true)) (K (.bool false))
theorem ycv {p:Prop} [Decidable p] {K:D->Prop} (h:yh8 p K):K (.bool (decide p)):=by
 by_cases hp:p
 ·have:=h.yes hp;simpa [hp] using this
 ·have:=h.no hp;simpa [hp] using this
def yix (p:Prop) (K:D->Prop):Prop:=Cmp p (K (.bool false)) (K (.bool true))
theorem z9t {p:Prop} [Decidable p] {K:D->Prop} (h:yix p K):K (.bool (!decide p)):=by
 by_cases hp:p
 ·have:=h.yes hp;simpa [hp] using this
 ·have:=h.no hp;simpa [hp] using this
def z59 (op:BinOp) (k:IntKind) (a b:Int) (K:D->Prop):Prop:=
 match op with
 | .add=>Wr k (a+b) fun n=>K (.int k n)
 | .sub=>Wr k (a-b) fun n=>K (.int k n)
 | .mul=>Wr k (a*b) fun n=>K (.int k n)
 | .quo=>Quo k a b fun n=>K (.int k n)
 | .rem=>Rem a b fun n=>K (.int k n)
 | .and=>K (.int k (k.wrap ((BitVec.ofInt k.bits a&&&BitVec.ofInt k.bits b).toNat)))
 | .or=>K (.int k (k.wrap ((BitVec.ofInt k.bits a|||BitVec.ofInt k.bits b).toNat)))
 | .xor=>K (.int k (k.wrap ((BitVec.ofInt k.bits a^^^BitVec.ofInt k.bits b).toNat)))
 | .andNot=>K (.int k (k.wrap ((BitVec.ofInt k.bits a&&&~~~ BitVec.ofInt k.bits b).toNat)))
 | .eql=>yh8 (a=b) K
 | .neq=>yix (a=b) K
 | .lss=>yh8 (a<b) K
 | .leq=>yh8 (a<=b) K
 | .gtr=>yh8 (b<a) K
 | .geq=>yh8 (b<=a) K
 | _=>False
theorem yau (op:BinOp) (k:IntKind) (a b:Int) (K:D->Prop) (h:z59 op k a b K):∃d,zws op k a b=some d/\K d:=by
 cases op<;>simp only [z59] at h<;>simp only [zws]
 all_goals first
  | exact⟨_,rfl,h.go⟩
  | exact⟨_,if_neg h.ne,h.go⟩
  | exact⟨_,rfl,h⟩
  | exact⟨_,rfl,ycv h⟩
  | exact⟨_,rfl,z9t h⟩
def z6a (op:BinOp) (a b:List UInt8) (K:D->Prop):Prop:=
 match op with
 | .add=>zju (a.length+b.length<=z9m) (K (.str (a++b)))
 | .eql=>yh8 (a=b) K
 | .neq=>yix (a=b) K
 | .lss=>K (.bool (zaq a b))
 | .leq=>K (.bool (zaq a b||a==b))
 | .gtr=>K (.bool (!(zaq a b||a==b)))
 | .geq=>K (.bool (!zaq a b))
 | _=>False
theorem yav (op:BinOp) (a b:List UInt8) (K:D->Prop) (h:z6a op a b K):∃d,zzj op a b=some d/\K d:=by
 have hb:(a==b)=decide (a=b):=by by_cases e:a=b<;>simp [e]
 cases op<;>simp only [z6a] at h<;>simp only [zzj]
 all_goals first
  | exact⟨_,if_pos h.need,h.go⟩
  | exact⟨_,rfl,by rw [hb];exact ycv h⟩
  | exact⟨_,rfl,by rw [hb];exact z9t h⟩
  | exact⟨_,rfl,h⟩
def yls (op:BinOp) (x y:V) (K:D->Prop):Prop:=
 match x,y with
 | .d (.int k a),.d (.int l b)=>
  (match op with
  | .shl=>zju (0<=b) (Wr k (a*2^(min b.toNat k.bits)) fun n=>K (.int k n))
  | .shr=>zju (0<=b) (K (.int k (a.fdiv (2^(min b.toNat k.bits)))))
  | _=>(match decide (k=l) with
   | true=>z59 op k a b K
   | false=>False))
 | .d (.str a),.d (.str b)=>z6a op a b K
 | _,_=>False
theorem yh2 (op:BinOp) (x y:V) (K:D->Prop) (h:yls op x y K):∃d,yju op x y=some d/\K d:=by
 unfold yls at h
 split at h
 ·simp only [yju]
  split at h
  ·exact⟨_,if_pos h.need,h.go.go⟩
  ·exact⟨_,if_pos h.need,h.go⟩
  ·rename_i n1 n2
   split at h
   ·rename_i e
    obtain⟨d,h1,h2⟩:=yau _ _ _ _ _ h
    refine⟨d,?_,h2⟩
    cases op<;>first |exact(if_pos (of_decide_eq_true e)).trans h1|exact absurd rfl n1|exact absurd rfl n2
   ·exact h.elim
 ·exact yav _ _ _ _ h
 ·exact h.elim
def zsy (mx:Bool) (k:IntKind):Int->List V->(D->Prop)->Prop
 | a,[],K=>K (.int k a)
 | a,.d (.int _ b)::r,K=>
  (match mx with
  | true=>zsy mx k (if b>a then b else a) r K
  | false=>zsy mx k (if b<a then b else a) r K)
 | _,_::_,_=>False
def z6z (mx:Bool) (l:List V) (K:D->Prop):Prop:=
 match l with
 | .d (.int k a)::r=>zsy mx k a r K
 | _=>False
theorem zrt (mx:Bool) (k:IntKind):∀(l:List V) (a:Int) (K:D->Prop),zsy mx k a l K->∃d,znv.go mx k a l=some d/\K d
 | [],a,K,h=>⟨.int k a,rfl,h⟩
 | v::r,a,K,h=>by
  unfold zsy at h
  split at h
  ·rename_i e;cases e
  ·rename_i _ _ _ a' b r' K' e
   obtain⟨rfl,rfl⟩:=(List.cons.injEq ..).mp e
   simp only [znv.go]
   cases mx with
   | true=>exact zrt true k r _ _ h
   | false=>exact zrt false k r _ _ h
  ·exact h.elim
theorem ybb (mx:Bool) (l:List V) (K:D->Prop) (h:z6z mx l K):∃d,znv mx l=some d/\K d:=by
 unfold z6z at h
 split at h
 ·exact zrt mx _ _ _ K h
 ·exact h.elim
end Go.Evl
namespace Go.Evl
def yir (nx:Nat):List Id->Bool
 | []=>true
 | i::r=>match Nat.blt i.lv nx with
  | true=>yir nx r
  | false=>false
theorem zx1 (nx:Nat):∀(l:List Id),yir nx l=zi7 nx l
 | []=>rfl
 | i::r=>by
  simp only [yir]
  cases h:Nat.blt i.lv nx with
  | true=>
   have:i.lv<nx:=Nat.le_of_ble_eq_true h
   simp only [zx1 nx r]
   simp [zi7,this]
  | false=>
   have:¬i.lv<nx:=fun hh=>by
    have:=Nat.ble_eq_true_of_le (show i.lv+1<=nx from hh)
    simp only [Nat.blt] at h
    rw [this] at h;cases h
   simp [zi7,this]
def z6v:Mem->(List Id->Prop)->Prop
 | [],K=>K []
 | (i,_)::r,K=>z6v r fun l=>K (i::l)
theorem zsu:∀(m:Mem) (K:List Id->Prop),z6v m K=K (ziy m)
 | [],_=>rfl
 | (i,o)::r,K=>by simp only [z6v,zsu r];rfl
def zzi (nx:Nat):Mem->(Mem->Prop)->Prop
 | [],K=>K []
 | (i,o)::r,K=>match Nat.blt i.lv nx with
  | true=>zzi nx r fun r'=>K ((i,o)::r')
  | false=>zzi nx r K
theorem zse (nx:Nat):∀(m:Mem) (K:Mem->Prop),zzi nx m K=K (zd7 nx m)
 | [],_=>rfl
 | (i,o)::r,K=>by
  simp only [zzi]
  cases h:Nat.blt i.lv nx with
  | true=>
   have:i.lv<nx:=Nat.le_of_ble_eq_true h
   simp only [zse nx r]
   simp [zd7,this]
  | false=>
   have:¬i.lv<nx:=fun hh=>by
    have:=Nat.ble_eq_true_of_le (show i.lv+1<=nx from hh)
    simp only [Nat.blt] at h
    rw [this] at h;cases h
   simp only [zse nx r]
   simp [zd7,this]
def z57 (cx:Cx) (slot:Nat) (imm:Bool) (v:V) (m':Mem) (K:V->Mem->Prop):Prop:=zzi cx.nx m' fun old=>
 match yir cx.nx (idsAll old) with
 | true=>(match imm with
  | true=>(match (ids v).all fun i=>Nat.ble cx.nx i.lv with
   | true=>yg3 m' v fun r=>K r old
   | false=>False)
  | false=>ztq (settle cx slot cx.nx old m' v) fun p=>K p.1 p.2)
 | false=>False
def callW (E:Oracle) (cx:Cx) (slot:Nat) (shared imm:Bool) (f:V) (args:List V) (m:Mem) (K:V->Mem->Prop):Prop:=
 match shared with
 | false=>(match f with
  | .fn f first caps=>zsq false m (first ++args++caps) fun ds=>yjt ds fun vs=>
   (match imm with
   | true=>za1 E f vs fun v=>K v m
   | false=>zgs E f vs cx slot m K)
  | _=>False)
 | true=>z6v m fun ks=>(match yir cx.nx ks with
  | true=>(match f with
   | .fn f first caps=>In E cx.nx f (first ++args++caps) m fun v m'=>z57 cx slot imm v m' K
   | .yld o=>Rnd E cx.nx o args m fun v m'=>z57 cx slot imm v m' K
   | _=>False)
  | false=>False)
section
variable {E : Oracle}
theorem z8h {cx:Cx} {slot:Nat} {imm:Bool} {v:V} {m':Mem} {K:V->Mem->Prop} (h:z57 cx slot imm v m' K):
  ∃p,(if zi7 cx.nx (idsAll (zd7 cx.nx m')) then zmu cx slot cx.nx imm (zd7 cx.nx m') m' v else none)=some p/\K p.1 p.2:=by
 simp only [z57,zse,zx1] at h
 split at h
 ·rename_i hl
  rw [if_pos hl]
  split at h
  ·split at h
   ·rename_i ha
    obtain⟨r,h1,h2⟩:=yan _ _ _ h
    refine⟨(r,zd7 cx.nx m'),?_,h2⟩
    have ha':((ids v).all fun i=>decide (cx.nx<=i.lv))=true:=by
     rw [List.all_eq_true] at ha ⊢
     intro i hi
     simpa using Nat.le_of_ble_eq_true (ha i hi)
    simp only [zmu,if_true,ha',h1]
    rfl
   ·exact h.elim
  ·obtain⟨p,h1,h2⟩:=h.got
   exact⟨p,by simp only [zmu];exact h1,h2⟩
 ·exact h.elim
theorem callW_ok {cx:Cx} {slot:Nat} {shared imm:Bool} {f:V} {args:List V} {m:Mem} {K:V->Mem->Prop} (h:callW E cx slot shared imm f args m K):
  ∃p,zil E cx slot shared imm f args m=some p/\K p.1 p.2:=by
 unfold callW at h
 split at h
 ·split at h
  ·rename_i f first caps
   obtain⟨ds,h1,h2⟩:=znt _ _ _ _ h
   rw [z02] at h2
   simp only [zil,h1]
   split at h2
   ·obtain⟨r,⟨v,m',h3,h4⟩,h5⟩:=h2.got
    refine⟨(r,m),?_,h5⟩
    have hall:((ids v).all fun i=>decide (0<=i.lv))=true:=by simp
    simp only [h3,zmu,hall,h4]
    rfl
   ·obtain⟨v,m',p,h3,h4,h5⟩:=h2.got
    refine⟨p,?_,h5⟩
    simp only [h3,zmu,h4]
    rfl
  ·exact h.elim
 ·simp only [zsu,zx1] at h
  split at h
  ·rename_i hl
   simp only [zil,if_true,hl]
   split at h
   ·obtain⟨v,m',h1,h2⟩:=h.got
    simp only [zgw,h1]
    exact z8h h2
   ·obtain⟨v,m',h1,h2⟩:=h.got
    simp only [zgw,h1]
    exact z8h h2
   ·exact h.elim
  ·exact h.elim
structure zuy (key:D) (es:List (D×V)) (K:Option V->Prop):Prop where
 got:∃r,zgy key es=some r/\K r
structure yj5 (key:D) (x:V) (es:List (D×V)) (K:List (D×V)->Prop):Prop where
 got:∃r,zn6 key x es=some r/\K r
structure zq2 (s:List UInt8) (pos:Nat) (some_:Int->Nat->Prop) (none_:Prop):Prop where
 yes:pos<s.length->some_ (Utf8.decode ⟨s.toArray⟩ pos).1 (Utf8.decode ⟨s.toArray⟩ pos).2
 no:¬pos<s.length->none_
def z6x (kk:KK) (zero:D) (ok:Bool) (m:Mem) (x key:V) (K:V->Prop):Prop:=
 match key with
 | .d key=>
  (match zgz kk key with
  | true=>(match x with
   | .mp o=>zke m o fun ob=>
    match ob with
    | some (.map es)=>zuy key es fun r=>K (yhk zero ok r)
    | _=>False
   | .d .nilm=>K (yhk zero ok none)
   | _=>False)
  | false=>False)
 | _=>False
theorem ya9 {kk:KK} {zero:D} {ok:Bool} {m:Mem} {x key:V} {K:V->Prop} (h:z6x kk zero ok m x key K):∃v,zmo kk zero ok m x key=some v/\K v:=by
 unfold z6x at h
 split at h
 ·split at h
  ·rename_i hk
   simp only [zmo,if_pos hk]
   split at h
   ·rw [zcv] at h
    split at h
    ·rename_i hl
     obtain⟨r,h1,h2⟩:=h.got
     exact⟨_,by simp only [hl,h1];rfl,h2⟩
    ·exact h.elim
   ·exact⟨_,rfl,h⟩
   ·exact h.elim
  ·exact h.elim
 ·exact h.elim
def yl5 (m:Mem) (x:V) (K:Nat->Bool->Prop):Prop:=
 match x with
 | .d .nilp=>K 0 true
 | .d .nilf=>K 4 true
 | .d .nili=>K 1 true
 | .d (.ifc true)=>K 1 false
 | .d .nilm=>K 3 true
 | .d (.fn _)=>K 4 false
 | .d (.list n _)=>zju (n≠0) (K 2 false)
 | .fn .. =>K 4 false
 | .lptr .. =>K 0 false
 | .ptr o _ top=>zke m o fun ob=>
  match ob with
  | some (.cells ..)=>K 0 false
  | some (.row _ _ _ n _)=>zju (n=top) (K 0 false)
  | _=>False
 | .ref o off len top=>zke m o fun ob=>
  match ob with
  | some (.row _ _ _ n _)=>zju (n=top/\off+len<=n/\len≠0) (K 2 false)
  | _=>False
 | _=>False
theorem yiy {m:Mem} {x:V} {K:Nat->Bool->Prop} (h:yl5 m x K):∃k b,ydt m x=some (k,b)/\K k b:=by
 unfold yl5 at h
 split at h
 ·exact⟨_,_,rfl,h⟩
 ·exact⟨_,_,rfl,h⟩
 ·exact⟨_,_,rfl,h⟩
 ·exact⟨_,_,rfl,h⟩
 ·exact⟨_,_,rfl,h⟩
 ·exact⟨_,_,rfl,h⟩
 ·rename_i n cs
  cases n with
  | zero=>exact absurd rfl h.need
  | succ n=>exact⟨_,_,rfl,h.go⟩
 ·exact⟨_,_,rfl,h⟩
 ·exact⟨_,_,rfl,h⟩
 ·rw [zcv] at h
  split at h
  ·rename_i hl;exact⟨_,_,by simp only [ydt,z22,hl];rfl,h⟩
  ·rename_i hl;exact⟨_,_,by simp [ydt,z22,hl,h.need],h.go⟩
  ·exact h.elim
 ·rw [zcv] at h
  split at h
  ·rename_i hl;exact⟨_,_,by simp only [ydt,hl];exact if_pos h.need,h.go⟩
  ·exact h.elim
 ·exact h.elim
def z13 (kk:KK) (m:Mem) (x key v:V) (K:V->Mem->Prop):Prop:=
 match x,key with
 | .mp o,.d key=>zke m o fun ob=>
  (match ob with
  | some (.map es)=>(match zgz kk key&&(cellsOf v).isSome with
   | true=>yj5 key v es fun es'=>zva m o (.map es') fun m'=>K .skip m'
   | false=>False)
  | _=>False)
 | _,_=>False
theorem zz7 {kk:KK} {m:Mem} {x key v:V} {K:V->Mem->Prop} (h:z13 kk m x key v K):∃m',zhb kk m x key v=some m'/\K .skip m':=by
 unfold z13 at h
 split at h
 ·rw [zcv] at h
  split at h
  ·rename_i hl
   split at h
   ·rename_i hb
    obtain⟨r,h1,h2⟩:=h.got
    rw [zdq] at h2
    exact⟨_,by simp only [zhb,hl,if_pos hb,h1];rfl,h2⟩
   ·exact h.elim
  ·exact h.elim
 ·exact h.elim
structure zmx (E:Oracle) (f:V) (args:List V) (m:Mem) (K:V->Prop):Prop where
 got:∃v,zsl E f args m=some v/\K v
structure yaq (E:Oracle) (imm:Bool) (f:V) (args:List V) (m:Mem) (K:V->Mem->Prop):Prop where
 got:∃v m',zuz E imm f args m=some (v,m')/\K v m'
def zi6 (E:Oracle) (cx:Cx) (slot:Nat) (e:Env) (m:Mem) (op:COp) (K:V->Mem->Prop):Prop:=
 match op with
 | .mv x=>opK e x fun v=>K v m
 | .ownNil r=>ycb cx slot m fun i=>zva m i (.row r.wr r.t r.sz 0 []) fun m'=>K (.ref i 0 0 0) m'
 | .pick c a b=>opK e c fun c=>
  match c with
  | .d (.bool t)=>Br t (opK e a fun v=>K v m) (opK e b fun v=>K v m)
  | _=>False
 | .alloc t cs=>z6s cx slot cs m fun vs m1=>ycb cx slot m1 fun i=>zva m1 i (.cells t vs) fun m2=>K (.ptr i 0 0) m2
 | .box t x=>opK e x fun v=>z3j v fun cs=>ycb cx slot m fun i=>zva m i (.cells t cs) fun m2=>K (.ptr i 0 0) m2
 | .build zero parts=>z6s cx slot zero m fun vs m1=>z9v e parts fun ps=>yif vs ps fun cs=>ylb cs fun v=>K v m1
 | .mkList sz n parts=>z5x e parts fun vs=>z4g sz m vs fun ds=>K (.d (.list n ds)) m
 | .mkListD sz n parts=>z5x e parts fun vs=>Chk (ydd vs) (z4g sz [] vs fun ds=>K (.d (.list n ds)) m)
 | .mkRow r n parts=>z5x e parts fun vs=>z4g r.sz m vs fun ds=>ycb cx slot m fun i=>zva m i (.row r.wr r.t r.sz n ds) fun m2=>K (.ref i 0 n n) m2
 | .load n a=>opK e a fun a=>yf8 n m a fun v=>K v m
 | .store n a x=>opK e a fun a=>opK e x fun x=>yaj n m a x fun m'=>K .skip m'
 | .nilCheck x=>opK e x fun v=>
  match v with
  | .fn f a b=>K (.fn f a b) m
  | .d (.fn f)=>K (.fn f [] []) m
  | .lptr cs o=>K (.lptr cs o) m
  | .ptr o off top=>zke m o fun ob=>
   match ob with
   | some (.cells ..)=>K (.ptr o off top) m
   | some (.row _ _ _ n _)=>zju (n=top) (K (.ptr o off top) m)
   | _=>False
  | _=>False
 | .bin op x y=>opK e x fun x=>opK e y fun y=>yls op x y fun d=>K (.d d) m
 | .eqv ks neg x y=>opK e x fun x=>opK e y fun y=>ylw ks x y fun b=>
  match neg with
  | true=>K (.d (.bool (!b))) m
  | false=>K (.d (.bool b)) m
 | .un op x=>opK e x fun x=>
  match op,x with
  | .not,.d (.bool b)=>K (.d (.bool (!b))) m
  | .neg,.d (.int k n)=>Wr k (0-n) fun n=>K (.d (.int k n)) m
  | _,_=>False
 | .conv k x=>opK e x fun x=>
  match x with
  | .d (.int _ n)=>Wr k n fun n=>K (.d (.int k n)) m
  | _=>False
 | .mkFunc f first caps=>z5x e first fun a=>z5x e caps fun b=>K (.fn f a b) m
 | .sliceS x lo hi=>opK e x fun x=>opK? e lo fun lo=>opK? e hi fun hi=>
  match x with
  | .d (.str s)=>ztw s.length lo hi fun l h=>K (.d (.str (win s l (h-l)))) m
  | _=>False
 | .slice sz x lo hi mx=>opK e x fun x=>opK? e lo fun lo=>opK? e hi fun hi=>opK? e mx fun mx=>yex sz m x lo hi mx fun v=>K v m
 | .fieldAddr off x=>opK e x fun x=>yga off m x fun v=>K v m
 | .field off n x=>opK e x fun x=>yi6 n x off fun v=>K v m
 | .idxAddr sz x i=>opK e x fun x=>opK e i fun i=>z1w sz m x i fun v=>K v m
 | .idxAddrA len sz x i=>opK e x fun x=>opK e i fun i=>
  match i with
  | .d (.int _ i)=>zju (0<=i/\i<len) (yga (i.toNat*sz) m x fun v=>K v m)
  | _=>False
 | .idxS x i=>opK e x fun x=>opK e i fun i=>
  match x,i with
  | .d (.str s),.d (.int _ i)=>zju (0<=i) (z50 s i.toNat fun b=>K (.d (.int .u8 b.toNat)) m)
  | _,_=>False
 | .mkMap=>ycb cx slot m fun i=>zva m i (.map []) fun m'=>K (.mp i) m'
 | .lookup kk zero ok x key=>opK e x fun x=>opK e key fun key=>z6x kk zero ok m x key fun v=>K v m
 | .mapSet kk x key v=>opK e x fun x=>opK e key fun key=>opK e v fun v=>z13 kk m x key v K
 | .mapSetR kk x key v rs=>opK e x fun x=>opK e key fun key=>opK e v fun v=>ya2 e rs fun vs=>Chk (z8e x vs) (z13 kk m x key v K)
 | .callD f args=>opK e f fun f=>z5x e args fun vs=>
  match zoq f with
  | .fn g [] []=>Chk (ydd vs) (callW E cx slot false true (.fn g [] []) vs m K)
  | _=>False
 | .callQ f args=>opK e f fun f=>z5x e args fun vs=>zmx E (zoq f) vs m fun v=>K v m
 | .callU imm f args=>opK e f fun f=>z5x e args fun vs=>yaq E imm (zoq f) vs m K
 | .callK imm f args=>opK e f fun f=>z5x e args fun vs=>callW E cx slot true imm (zoq f) vs m fun v m'=>Chk (leM m m' m) (K v m)
 | .callN f args=>opK e f fun f=>z5x e args fun vs=>
  match zoq f with
  | .fn g [] []=>Chk (ydd vs) (callW E cx slot false false (.fn g [] []) vs m K)
  | _=>False
 | .nilEq kd neg x=>opK e x fun x=>yl5 m x fun k b=>Chk (Nat.beq k kd) (K (.d (.bool (if neg then !b else b))) m)
 | .loadD n a=>opK e a fun a=>
  match a with
  | .lptr cs off=>z4x n cs off fun v=>K v m
  | _=>False
 | .sliceC _ x hi mx=>opK e x fun x=>opK e hi fun hi=>opK e mx fun mx=>
  match x with
  | .d (.list n cs)=>(match hi with
   | .d (.int _ h)=>(match mx with
    | .d (.int _ k)=>zju (h=n/\k=n) (K (.cl n cs) m)
    | _=>False)
   | _=>False)
  | _=>False
 | .sealMv x=>opK e x fun v=>yjk m v fun m'=>K v m'
 | .fieldAddrD off x=>opK e x fun x=>
  match x with
  | .lptr cs b=>K (.lptr cs (b+off)) m
  | _=>False
 | .idxAddrD sz x i=>opK e x fun x=>opK e i fun i=>
  match x with
  | .d (.list n cs)=>(match i with
   | .d (.int _ i)=>zju (0<=i/\i<n) (K (.lptr cs (i.toNat*sz)) m)
   | _=>False)
  | _=>False
 | .appendIn r s x=>opK e s fun s=>opK e x fun x=>z3z m x fun k ds=>
  match s with
  | .ref o off len top=>zke m o fun ob=>
   match ob with
   | some (.row true t sz n xs)=>zju (n=top/\off+len+k<=n/\off+len<n/\t=r.t/\sz=r.sz/\ds.length=k*sz)
    (zva m o (.row true t sz n (patch xs ((off+len)*sz) ds)) fun m'=>K (.ref o off (len+k) top) m')
   | _=>False
  | _=>False
 | .rangeS x=>opK e x fun x=>
  match x with
  | .d (.str s)=>ycb cx slot m fun i=>zva m i (.iter s 0) fun m'=>K (.it i) m'
  | _=>False
 | .nextS x=>opK e x fun x=>
  match x with
  | .it o=>zke m o fun ob=>
   match ob with
   | some (.iter s pos)=>zq2 s pos (fun c w=>zva m o (.iter s (pos+w)) fun m'=>K (.tup [.d (.bool true),.d (.int .i64 pos),.d (.int .i32 c)]) m') (K (.tup [.d (.bool false)]) m)
   | _=>False
  | _=>False
 | .extract x i=>opK e x fun x=>
  match x with
  | .tup vs=>yap vs i fun v=>K v m
  | _=>False
 | .call shared imm f args=>opK e f fun f=>z5x e args fun vs=>callW E cx slot shared imm (zoq f) vs m K
 | .storeR n a x rs=>opK e a fun a=>opK e x fun x=>ya2 e rs fun vs=>Chk (z8f a vs) (yaj n m a x fun m'=>K .skip m')
 | .bad=>False
 | .appendZ r zero s n=>opK e s fun s=>opK e n fun n=>
  match s,n with
  | .d .nil,.d (.int .i64 n)=>zju (0<n/\zero.length=r.sz/\n.toNat*r.by_<=140737488355328/\n.toNat<=140737488355328)
   (ycb cx slot m fun i=>zva m i (.row r.wr r.t r.sz n.toNat (List.replicate n.toNat zero).flatten) fun m'=>K (.ref i 0 n.toNat n.toNat) m')
  | _,_=>False
 | .callB imm f args b=>∃p,zjk (fun m=>zil E cx slot true imm (zoq (f.ev e)) (evs e args) m) m (get e b)=some p/\K p.1 p.2
 | .callR imm f args rs=>opK e f fun f=>z5x e args fun vs=>ya2 e rs fun ws=>callW E cx slot true imm (zoq f) vs m fun v m'=>Chk (z6u m m' ws) (K v m')
 | .len k x=>opK e x fun x=>yl0 m k x fun n=>K (.d (.int .i64 (n:Int))) m
 | .append r s x=>opK e s fun s=>opK e x fun x=>z3z m x fun k ds=>zr6 cx slot r m k ds s K
 | .appendF r s x=>opK e s fun s=>opK e x fun x=>z3z m x fun k ds=>zr6 cx slot r m k ds s fun v m'=>zf0 false m' v fun d=>K (.d d) m'
 | .strB x=>opK e x fun x=>
  match x with
  | .d (.list 1 [.int .u8 n])=>K (.d (.str [UInt8.ofNat n.toNat])) m
  | _=>False
 | .appendS r s x=>opK e s fun s=>opK e x fun x=>
  match x,s with
  | .d (.str b),.ref o off len top=>zr6 cx slot r m b.length (z8k b) (.ref o off len top) K
  | _,_=>False
 | .minmax mx args=>z5x e args fun vs=>z6z mx vs fun d=>K (.d d) m
theorem z79 {cx:Cx} {slot:Nat} {e:Env} {m:Mem} {op:COp} {K:V->Mem->Prop} (h:zi6 E cx slot e m op K):∃p,zb5 E cx slot e m op=some p/\K p.1 p.2:=by
 cases op with
 | mv x=>simp only [zi6,zbx] at h;exact⟨(_,_),rfl,h⟩
 | ownNil r=>simp only [zi6,zlp,zdq] at h;exact⟨(_,_),rfl,h⟩
 | pick c a b=>
  simp only [zi6,zbx] at h
  simp only [zb5]
  split at h
  ·rename_i t ht
   rw [ht]
   refine⟨(if t then a.ev e else b.ev e,m),rfl,?_⟩
   cases t with
   | true=>exact h.yes rfl
   | false=>exact h.no rfl
  ·exact h.elim
 | alloc t cs=>simp only [zi6,zv2,zlp,zdq] at h;exact⟨(_,_),rfl,h⟩
 | box t x=>
  simp only [zi6,zbx] at h
  obtain⟨cs,h1,h2⟩:=zw7 _ _ h
  simp only [zlp,zdq] at h2
  exact⟨(_,_),by simp only [zb5,h1],h2⟩
 | build zero parts=>
  simp only [zi6,zv2,z4v] at h
  obtain⟨cs,h1,h2⟩:=z8y _ _ _ h
  rw [ych] at h2
  exact⟨(_,_),by simp only [zb5,h1];rfl,h2⟩
 | mkList sz n parts=>
  simp only [zi6,zjm] at h
  obtain⟨cs,h1,h2⟩:=zsx _ _ _ _ h
  exact⟨(_,_),by simp only [zb5,h1];rfl,h2⟩
 | mkListD sz n parts=>
  simp only [zi6,zjm] at h
  obtain⟨hc,h⟩:=h
  obtain⟨cs,h1,h2⟩:=zsx _ _ _ _ h
  exact⟨(_,_),by simp only [zb5,hc,if_true,h1];rfl,h2⟩
 | mkRow r n parts=>
  simp only [zi6,zjm] at h
  obtain⟨cs,h1,h2⟩:=zsx _ _ _ _ h
  simp only [zlp,zdq] at h2
  exact⟨(_,_),by simp only [zb5,h1];rfl,h2⟩
 | load n a=>
  simp only [zi6,zbx] at h
  obtain⟨v,h1,h2⟩:=z9j _ _ _ _ h
  exact⟨(_,_),by simp only [zb5,h1];rfl,h2⟩
 | store n a x=>
  simp only [zi6,zbx] at h
  obtain⟨v,h1,h2⟩:=z5m _ _ _ _ _ h
  exact⟨(_,_),by simp only [zb5,h1];rfl,h2⟩
 | nilCheck x=>
  simp only [zi6,zbx] at h
  simp only [zb5]
  split at h
  ·rename_i hx;rw [hx];exact⟨(_,_),rfl,h⟩
  ·rename_i hx;rw [hx];exact⟨(_,_),rfl,h⟩
  ·rename_i hx;rw [hx];exact⟨(_,_),rfl,h⟩
  ·rename_i hx;rw [hx]
   rw [zcv] at h
   split at h
   ·rename_i hl;exact⟨(_,_),by simp only [z22,hl];rfl,h⟩
   ·rename_i hl;exact⟨(_,_),by simp [z22,hl,h.need],h.go⟩
   ·exact h.elim
  ·exact h.elim
 | bin op x y=>
  simp only [zi6,zbx] at h
  obtain⟨v,h1,h2⟩:=yh2 _ _ _ _ h
  exact⟨(_,_),by simp only [zb5,h1];rfl,h2⟩
 | eqv ks neg x y=>
  simp only [zi6,zbx] at h
  obtain⟨v,h1,h2⟩:=yid _ _ _ _ h
  cases neg<;>exact⟨(_,_),by simp only [zb5,h1];rfl,h2⟩
 | un op x=>
  simp only [zi6,zbx] at h
  simp only [zb5]
  split at h
  ·rename_i hx;rw [hx];exact⟨(_,_),rfl,h⟩
  ·rename_i hx;rw [hx];exact⟨(_,_),rfl,h.go⟩
  ·exact h.elim
 | conv k x=>
  simp only [zi6,zbx] at h
  simp only [zb5]
  split at h
  ·rename_i hx;rw [hx];exact⟨(_,_),rfl,h.go⟩
  ·exact h.elim
 | mkFunc f first caps=>simp only [zi6,zjm] at h;exact⟨(_,_),rfl,h⟩
 | sliceS x lo hi=>
  simp only [zi6,zbx,opK?_eq] at h
  simp only [zb5]
  split at h
  ·rename_i hx;rw [hx]
   obtain⟨p,h1,h2⟩:=zpt _ _ _ _ h
   obtain⟨l,hh⟩:=p
   simp only [h1]
   exact⟨(_,_),rfl,h2⟩
  ·exact h.elim
 | slice sz x lo hi mx=>
  simp only [zi6,zbx,opK?_eq] at h
  obtain⟨v,h1,h2⟩:=yey _ _ _ _ _ _ _ h
  exact⟨(_,_),by simp only [zb5,h1];rfl,h2⟩
 | fieldAddr off x=>
  simp only [zi6,zbx] at h
  obtain⟨v,h1,h2⟩:=z9q _ _ _ _ h
  exact⟨(_,_),by simp only [zb5,h1];rfl,h2⟩
 | field off n x=>
  simp only [zi6,zbx] at h
  obtain⟨v,h1,h2⟩:=ygf _ _ _ _ h
  exact⟨(_,_),by simp only [zb5,h1];rfl,h2⟩
 | idxAddr sz x i=>
  simp only [zi6,zbx] at h
  obtain⟨v,h1,h2⟩:=z6q _ _ _ _ _ h
  exact⟨(_,_),by simp only [zb5,h1];rfl,h2⟩
 | idxAddrA len sz x i=>
  simp only [zi6,zbx] at h
  simp only [zb5]
  split at h
  ·rename_i hx;rw [hx]
   obtain⟨h0,h⟩:=h
   obtain⟨v,h1,h2⟩:=z9q _ _ _ _ h
   simp only [asI,if_pos h0,h1]
   exact⟨(_,_),rfl,h2⟩
  ·exact h.elim
 | idxS x i=>
  simp only [zi6,zbx] at h
  simp only [zb5]
  split at h
  ·rename_i hx hi;rw [hx,hi]
   obtain⟨h0,h⟩:=h
   obtain⟨b,h1,h2⟩:=h.got
   simp only [asI,if_pos h0,h1]
   exact⟨(_,_),rfl,h2⟩
  ·exact h.elim
 | mkMap=>simp only [zi6,zlp,zdq] at h;exact⟨(_,_),rfl,h⟩
 | lookup kk zero ok x key=>
  simp only [zi6,zbx] at h
  obtain⟨v,h1,h2⟩:=ya9 h
  exact⟨(_,_),by simp only [zb5,h1];rfl,h2⟩
 | mapSet kk x key v=>
  simp only [zi6,zbx] at h
  obtain⟨m',h1,h2⟩:=zz7 h
  exact⟨(_,_),by simp only [zb5,h1];rfl,h2⟩
 | mapSetR kk x key v rs=>
  simp only [zi6,zbx,zv1] at h
  obtain⟨hc,h⟩:=h
  obtain⟨m',h1,h2⟩:=zz7 h
  exact⟨(_,_),by simp only [zb5,if_pos hc,h1];rfl,h2⟩
 | callK imm f args=>
  simp only [zi6,zbx,zjm] at h
  obtain⟨⟨v,m'⟩,h1,hc,h2⟩:=callW_ok h
  exact⟨(v,m),by simp only [zb5,h1,if_pos hc],h2⟩
 | callQ f args=>
  simp only [zi6,zbx,zjm] at h
  obtain⟨v,h1,h2⟩:=h.got
  exact⟨(v,m),by simp only [zb5,h1];rfl,h2⟩
 | callU b f args=>
  simp only [zi6,zbx,zjm] at h
  obtain⟨v,m',h1,h2⟩:=h.got
  exact⟨(v,m'),by simp only [zb5,h1],h2⟩
 | callN f args=>
  simp only [zi6,zbx,zjm] at h
  simp only [zb5]
  split at h
  ·rename_i hf;rw [hf]
   obtain⟨hc,h⟩:=h
   obtain⟨p,h1,h2⟩:=callW_ok h
   exact⟨p,by simp only [hc,if_true];exact h1,h2⟩
  ·exact h.elim
 | callD f args=>
  simp only [zi6,zbx,zjm] at h
  simp only [zb5]
  split at h
  ·rename_i hf;rw [hf]
   obtain⟨hc,h⟩:=h
   obtain⟨p,h1,h2⟩:=callW_ok h
   exact⟨p,by simp only [hc,if_true];exact h1,h2⟩
  ·exact h.elim
 | nilEq kd neg x=>
  simp only [zi6,zbx] at h
  obtain⟨k,b,h1,hc,h2⟩:=yiy h
  exact⟨(_,_),by simp only [zb5,h1];exact if_pos (Nat.eq_of_beq_eq_true hc),h2⟩
 | loadD n a=>
  simp only [zi6,zbx] at h
  simp only [zb5]
  split at h
  ·rename_i ha;rw [ha]
   obtain⟨v,h1,h2⟩:=zs8 _ _ _ _ h
   exact⟨(_,_),by simp only [h1];rfl,h2⟩
  ·exact h.elim
 | sliceC sz x hi mx=>
  simp only [zi6,zbx] at h
  simp only [zb5]
  split at h
  ·rename_i hx;rw [hx]
   split at h
   ·rename_i hh;rw [hh]
    split at h
    ·rename_i hm;rw [hm]
     exact⟨(_,_),if_pos h.need,h.go⟩
    ·exact h.elim
   ·exact h.elim
  ·exact h.elim
 | sealMv x=>
  simp only [zi6,zbx] at h
  exact⟨(_,_),rfl,ygt _ _ _ h⟩
 | fieldAddrD off x=>
  simp only [zi6,zbx] at h
  simp only [zb5]
  split at h
  ·rename_i hx;rw [hx]
   exact⟨(_,_),rfl,h⟩
  ·exact h.elim
 | idxAddrD sz x i=>
  simp only [zi6,zbx] at h
  simp only [zb5]
  split at h
  ·rename_i hx;rw [hx]
   split at h
   ·rename_i hi;rw [hi]
    exact⟨(_,_),if_pos h.need,h.go⟩
   ·exact h.elim
  ·exact h.elim
 | appendIn r s x=>
  simp only [zi6,zbx] at h
  obtain⟨⟨k,ds⟩,h1,h2⟩:=zxg _ _ _ h
  simp only [zb5,zr5,h1]
  split at h2
  ·rename_i hs;rw [hs]
   rw [zcv] at h2
   split at h2
   ·rename_i hl
    obtain⟨hc,h3⟩:=h2
    rw [zdq] at h3
    exact⟨(_,_),by simp only [hl];exact if_pos hc,h3⟩
   ·exact h2.elim
  ·exact h2.elim
 | rangeS x=>
  simp only [zi6,zbx] at h
  simp only [zb5]
  split at h
  ·rename_i hx;rw [hx]
   simp only [zlp,zdq] at h
   exact⟨(_,_),rfl,h⟩
  ·exact h.elim
 | nextS x=>
  simp only [zi6,zbx] at h
  simp only [zb5]
  split at h
  ·rename_i hx;rw [hx]
   rw [zcv] at h
   split at h
   ·rename_i s pos hl
    simp only [zdq] at h
    simp only [ygb,hl]
    by_cases hp:pos<s.length
    ·exact⟨(_,_),if_pos hp,h.yes hp⟩
    ·exact⟨(_,_),if_neg hp,h.no hp⟩
   ·exact h.elim
  ·exact h.elim
 | extract x i=>
  simp only [zi6,zbx] at h
  simp only [zb5]
  split at h
  ·rename_i hx;rw [hx]
   obtain⟨v,h1,h2⟩:=h.got
   exact⟨(_,_),by simp only [h1];rfl,h2⟩
  ·exact h.elim
 | call shared imm f args=>
  simp only [zi6,zbx,zjm] at h
  exact callW_ok h
 | storeR n a x rs=>
  simp only [zi6,zbx,zv1] at h
  obtain⟨hc,h⟩:=h
  obtain⟨v,h1,h2⟩:=z5m _ _ _ _ _ h
  exact⟨(_,_),by simp only [zb5,if_pos hc,h1];rfl,h2⟩
 | callB imm f args b=>exact h
 | bad=>exact h.elim
 | appendZ r zero s n=>
  simp only [zi6,zbx] at h
  simp only [zb5]
  split at h
  ·rename_i hs hn;rw [hs,hn]
   obtain⟨⟨h1,h2,h3,h4⟩,h5⟩:=h
   rw [zlp,zdq] at h5
   exact⟨(_,_),if_pos ⟨h1,h2,by simp [zyg,h3,h4]⟩,h5⟩
  ·exact h.elim
 | callR imm f args rs=>
  simp only [zi6,zbx,zjm,zv1] at h
  obtain⟨⟨v,m'⟩,h1,hc,h2⟩:=callW_ok h
  exact⟨(v,m'),by simp only [zb5,h1,if_pos hc],h2⟩
 | len k x=>
  simp only [zi6,zbx] at h
  obtain⟨v,h1,h2⟩:=yio _ _ _ _ h
  exact⟨(_,_),by simp only [zb5,h1];rfl,h2⟩
 | append r s x=>
  simp only [zi6,zbx] at h
  obtain⟨⟨k,ds⟩,h1,h2⟩:=zxg _ _ _ h
  simp only [zb5,zq4,h1]
  exact zq3 _ _ _ _ _ _ _ _ h2
 | appendF r s x=>
  simp only [zi6,zbx] at h
  obtain⟨⟨k,ds⟩,h1,h2⟩:=zxg _ _ _ h
  obtain⟨⟨v,m'⟩,h3,h4⟩:=zq3 _ _ _ _ _ _ _ _ h2
  obtain⟨d,h5,h6⟩:=zm4 _ _ _ _ h4
  exact⟨(_,_),by simp only [zb5,zq4,h1,h3,h5];rfl,h6⟩
 | strB x=>
  simp only [zi6,zbx] at h
  simp only [zb5]
  split at h
  ·rename_i hx;rw [hx];exact⟨(_,_),rfl,h⟩
  ·exact h.elim
 | appendS r s x=>
  simp only [zi6,zbx] at h
  simp only [zb5]
  split at h
  ·rename_i hx hs;rw [hx,hs]
   simp only [zr7]
   exact zq3 _ _ _ _ _ _ _ _ h
  ·exact h.elim
 | minmax mx args=>
  simp only [zi6,zjm] at h
  obtain⟨v,h1,h2⟩:=ybb _ _ _ h
  exact⟨(_,_),by simp only [zb5,h1];rfl,h2⟩
def yjq (E:Oracle) (cx:Cx) (e:Env) (m:Mem) (o:CO) (K:V->Mem->Prop):Prop:=
 match o with
 | ⟨dst,none,op⟩=>zi6 E cx (dst.getD 0) e m op K
 | ⟨dst,some (t,want),op⟩=>yfi e t fun g=>
  match g with
  | .d (.bool b)=>(match want with
   | true=>Br b (zi6 E cx (dst.getD 0) e m op K) (K .skip m)
   | false=>Br b (K .skip m) (zi6 E cx (dst.getD 0) e m op K))
  | .skip=>K .skip m
  | _=>False
theorem yg5 {cx:Cx} {e:Env} {m:Mem} {o:CO} {K:V->Mem->Prop} (h:yjq E cx e m o K):∃p,zdl E cx e m o=some p/\K p.1 p.2:=by
 obtain⟨dst,guard,op⟩:=o
 cases guard with
 | none=>exact z79 h
 | some g=>
  obtain⟨t,want⟩:=g
  simp only [yjq,zo8] at h
  simp only [zdl]
  split at h
  ·rename_i b hb
   rw [hb]
   cases want<;>cases b
   ·exact z79 (h.no rfl)
   ·exact⟨(_,_),rfl,h.yes rfl⟩
   ·exact⟨(_,_),rfl,h.no rfl⟩
   ·exact z79 (h.yes rfl)
  ·rename_i hb;rw [hb];exact⟨(_,_),rfl,h⟩
  ·exact h.elim
def wpOps (E:Oracle) (cx:Cx):List CO->Env->Mem->(Env->Mem->Prop)->Prop
 | [],e,m,K=>K e m
 | o::r,e,m,K=>yjq E cx e m o fun v m'=>put?K e o.dst v fun e'=>wpOps E cx r e' m' K
theorem wpOps_ok {cx:Cx}:∀(os:List CO) (e:Env) (m:Mem) (K:Env->Mem->Prop),wpOps E cx os e m K->∃p,zga E cx os e m=some p/\K p.1 p.2
 | [],e,m,K,h=>⟨(e,m),rfl,h⟩
 | o::r,e,m,K,h=>by
  obtain⟨⟨v,m'⟩,h1,h2⟩:=yg5 h
  rw [put?K_eq] at h2
  obtain⟨p,h3,h4⟩:=wpOps_ok r _ _ K h2
  exact⟨p,by simp only [zga,h1];exact h3,h4⟩
def ynl (K1:Env->Mem->Prop) (K:Ex->Env->Mem->Prop) (x:Ex) (e:Env) (m:Mem):Prop:=
 match x with
 | .normal=>K1 e m
 | .exit i=>K (.exit i) e m
 | .ret=>K .ret e m
def yhe (id:Nat) (K:Ex->Env->Mem->Prop) (x:Ex) (e:Env) (m:Mem):Prop:=
 match x with
 | .normal=>K .normal e m
 | .exit j=>(match Nat.beq j id with
  | true=>K .normal e m
  | false=>K (.exit j) e m)
 | .ret=>K .ret e m
def yhn (cx:Cx) (i:Id) (e:Env) (K:Ex->Env->Mem->Prop) (m':Mem):Prop:=zke m' i fun o=>
 match o with
 | some (.loop _ _ _ _ _ false _ j)=>zzi cx.nx m' fun mb=>
  (match yir cx.nx (idsAll mb) with
  | true=>zva mb i .gone fun m2=>
   (match j with
   | none=>K .normal e m2
   | some (.exit id)=>K (.exit id) e m2
   | some .ret=>K .ret e m2)
  | false=>False)
 | _=>False
def wpC (E:Oracle) (cx:Cx):C->Env->Mem->(Ex->Env->Mem->Prop)->Prop
 | .skip,e,m,K=>K .normal e m
 | .label,e,m,K=>K .normal e m
 | .reg _ ops kill,e,m,K=>wpOps E cx ops e m fun e' m'=>zqd kill e' fun e''=>K .normal e'' m'
 | .regC ops kill chk,e,m,K=>wpOps E cx ops e m fun e' m'=>Chk (yia e' chk) (zqd kill e' fun e''=>K .normal e'' m')
 | .seq a b,e,m,K=>wpC E cx a e m (ynl (fun e' m'=>wpC E cx b e' m' K) K)
 | .cond c a b,e,m,K=>opK e c fun v=>
  match v with
  | .d (.bool t)=>Br t (wpC E cx a e m K) (wpC E cx b e m K)
  | _=>False
 | .block id c,e,m,K=>wpC E cx c e m (yhe id K)
 | .loop live c,e,m,K=>yd3 e live fun e'=>z6v m fun ks=>gcK ks e' m fun m'=>zal E cx live ks c e' m' K
 | .exit id,e,m,K=>K (.exit id) e m
 | .ret,e,m,K=>K .ret e m
 | .bad,_,_,_=>False
 | .scope c,e,m,K=>wpC E cx c e m K
 | .fz t c,e,m,K=>yfi e t fun v=>zf0 false m v fun d=>yj0 e t (.d d) fun e'=>wpC E cx c e' m K
 | .rangeM pre it x out nxt pair live ops kill code,e,m,K=>wpOps E cx pre e m fun e1 m1=>
  ∃x' e' m',zhy (fun e m=>(zga E cx ops e m).bind fun q=>evC E cx code (zb2 kill q.1) q.2) cx it x out nxt pair live e1 m1=some (x',e',m')/\K x' e' m'
 | .rangeFn slot f ps a b,e,m,K=>ycb cx slot m fun i=>zva m i (.loop e ps a b cx.lv false false none) fun m1=>z6v m1 fun ks=>
  match yir cx.nx ks with
  | true=>opK e f fun fv=>
   (match fv with
   | .fn g first caps=>In E cx.nx g (first ++[.yld i]++caps) m1 fun _ m'=>yhn cx i e K m'
   | _=>False)
  | false=>False
theorem wpC_ok {cx:Cx}:∀(c:C) (e:Env) (m:Mem) (K:Ex->Env->Mem->Prop),wpC E cx c e m K->∃x e' m',evC E cx c e m=some (x,e',m')/\K x e' m'
 | .rangeM pre it x out nxt pair live ops kill code,e,m,K,h=>by
  obtain⟨p,h1,x',e',m',h2,h3⟩:=wpOps_ok pre e m _ h
  exact⟨x',e',m',by simp only [evC,h1,Option.bind_some,h2],h3⟩
 | .skip,e,m,K,h=>⟨_,_,_,rfl,h⟩
 | .label,e,m,K,h=>⟨_,_,_,rfl,h⟩
 | .exit _,e,m,K,h=>⟨_,_,_,rfl,h⟩
 | .ret,e,m,K,h=>⟨_,_,_,rfl,h⟩
 | .bad,_,_,_,h=>h.elim
 | .fz t c,e,m,K,h=>by
  simp only [wpC,zo8] at h
  obtain⟨d,hd,h⟩:=zm4 _ _ _ _ h
  rw [z2i] at h
  obtain⟨x,e',m',h1,h2⟩:=wpC_ok c _ m K h
  exact⟨x,e',m',by simp only [evC,hd];exact h1,h2⟩
 | .scope c,e,m,K,h=>by
  obtain⟨x,e',m',h1,h2⟩:=wpC_ok c e m K h
  exact⟨x,e',m',by simp only [evC];exact h1,h2⟩
 | .reg _ ops kill,e,m,K,h=>by
  obtain⟨p,h1,h2⟩:=wpOps_ok ops e m _ h
  rw [zn8] at h2
  exact⟨_,_,_,by simp only [evC,h1];rfl,h2⟩
 | .regC ops kill chk,e,m,K,h=>by
  obtain⟨p,h1,hc,h2⟩:=wpOps_ok ops e m _ h
  rw [zn8] at h2
  exact⟨_,_,_,by simp only [evC,h1,Option.bind_some];exact if_pos hc,h2⟩
 | .seq a b,e,m,K,h=>by
  obtain⟨x,e',m',h1,h2⟩:=wpC_ok a e m _ h
  cases x with
  | normal=>
   obtain⟨x2,e2,m2,h3,h4⟩:=wpC_ok b e' m' K h2
   exact⟨x2,e2,m2,by simp only [evC,h1];exact h3,h4⟩
  | _=>exact⟨_,_,_,by simp only [evC,h1],h2⟩
 | .cond c a b,e,m,K,h=>by
  simp only [wpC,zbx] at h
  simp only [evC]
  split at h
  ·rename_i t ht
   rw [ht]
   cases t with
   | true=>
    obtain⟨x2,e2,m2,h3,h4⟩:=wpC_ok a e m K (h.yes rfl)
    exact⟨x2,e2,m2,by simpa using h3,h4⟩
   | false=>
    obtain⟨x2,e2,m2,h3,h4⟩:=wpC_ok b e m K (h.no rfl)
    exact⟨x2,e2,m2,by simpa using h3,h4⟩
  ·exact h.elim
 | .block id c,e,m,K,h=>by
  obtain⟨x,e',m',h1,h2⟩:=wpC_ok c e m _ h
  cases x with
  | exit j=>
   simp only [yhe] at h2
   cases hb:Nat.beq j id with
   | true=>
    rw [hb] at h2
    exact⟨.normal,e',m',by simp only [evC,h1];exact if_pos (Nat.eq_of_beq_eq_true hb),h2⟩
   | false=>
    rw [hb] at h2
    have:j≠id:=fun hh=>by rw [hh,Nat.beq_refl] at hb;cases hb
    exact⟨.exit j,e',m',by simp only [evC,h1];exact if_neg this,h2⟩
  | _=>exact⟨_,_,_,by simp only [evC,h1],h2⟩
 | .loop live c,e,m,K,h=>by
  simp only [wpC,z2f,zsu,yc9] at h
  obtain⟨x,e',m',h1,h2⟩:=h.got
  exact⟨x,e',m',by simp only [evC,h1],h2⟩
 | .rangeFn slot f ps a b,e,m,K,h=>by
  simp only [wpC,zlp,zdq,zsu,zx1,zbx] at h
  simp only [evC]
  split at h
  ·rename_i hl
   rw [if_pos hl]
   split at h
   ·rename_i hf
    rw [hf]
    obtain⟨v,m',h1,h2⟩:=h.got
    simp only [h1]
    simp only [yhn,zcv,zse,zx1,zdq] at h2
    split at h2
    ·rename_i hlk
     simp only [hlk]
     split at h2
     ·rename_i hl2
      simp only [if_pos hl2]
      split at h2<;>exact⟨_,_,_,rfl,h2⟩
     ·exact h2.elim
    ·exact h2.elim
   ·exact h.elim
  ·exact h.elim
def ykv (m:Mem) (e:Env) (r:RV) (K:V->Prop):Prop:=
 match r with
 | .tmp t=>yfi e t K
 | .cell t n=>yfi e t fun a=>yf8 n m a K
theorem yei {m:Mem} {e:Env} {r:RV} {K:V->Prop} (h:ykv m e r K):∃v,yku m e r=some v/\K v:=by
 cases r with
 | tmp t=>simp only [ykv,zo8] at h;exact⟨_,rfl,h⟩
 | cell t n=>simp only [ykv,zo8] at h;exact z9j _ _ _ _ h
def yi8 (m:Mem) (e:Env):List RV->(List V->Prop)->Prop
 | [],K=>K []
 | r::q,K=>ykv m e r fun v=>yi8 m e q fun vs=>K (v::vs)
theorem z93 {m:Mem} {e:Env}:∀(l:List RV) (K:List V->Prop),yi8 m e l K->∃vs,zy9 m e l=some vs/\K vs
 | [],K,h=>⟨[],rfl,h⟩
 | r::q,K,h=>by
  obtain⟨v,h1,h2⟩:=yei h
  obtain⟨vs,h3,h4⟩:=z93 q _ h2
  exact⟨v::vs,by simp only [zy9,h1,h3],h4⟩
def zv9 (m:Mem) (e:Env) (rs:List RV) (K:V->Prop):Prop:=
 match rs with
 | []=>K (.tup [])
 | [r]=>ykv m e r K
 | r::r2::rs=>yi8 m e (r::r2::rs) fun vs=>K (.tup vs)
theorem zyf {m:Mem} {e:Env} {rs:List RV} {K:V->Prop} (h:zv9 m e rs K):∃v,results m e rs=some v/\K v:=by
 unfold zv9 at h
 split at h
 ·exact⟨_,rfl,h⟩
 ·exact yei h
 ·obtain⟨vs,h1,h2⟩:=z93 _ _ h
  exact⟨_,by simp only [results,h1];rfl,h2⟩
def ylv (rs:List RV) (K:V->Mem->Prop) (x:Ex) (e:Env) (m:Mem):Prop:=
 match x with
 | .normal=>zv9 m e rs fun v=>K v m
 | .ret=>zv9 m e rs fun v=>K v m
 | .exit _=>False
def ylj:Nat->List V->(Env->Prop)->Prop
 | _,[],K=>K []
 | i,v::r,K=>ylj (i+1) r fun e=>K ((i,v)::e)
theorem yd5:∀(i:Nat) (l:List V) (K:Env->Prop),ylj i l K=K (params i l)
 | _,[],_=>rfl
 | i,v::r,K=>by simp only [ylj,params,yd5 (i+1) r]
variable {Γ : Nat -> Option CF} {X : Extern}
def yft (E:Oracle) (lv:Nat) (cf:CF) (args:List V) (m:Mem) (K:V->Mem->Prop):Prop:=ylj 0 args fun e=>wpC E ⟨lv,lv+1⟩ cf.body e m (ylv cf.results K)
theorem In.enter (hE:Lim Γ X E) {lv f:Nat} {args:List V} {m:Mem} {K:V->Mem->Prop} {cf:CF} (hX:X f=none) (hc:Γ f=some cf) (h:yft E lv cf args m K):In E lv f args m K:=by
 simp only [yft,yd5] at h
 obtain⟨x,e',m',h1,h2⟩:=wpC_ok _ _ _ _ h
 refine⟨?_⟩
 rw [hE.fix]
 simp only [step,hX,hc,h1]
 cases x with
 | normal=>
  simp only [ylv] at h2
  obtain⟨v,h3,h4⟩:=zyf h2
  exact⟨v,m',by simp only [h3];rfl,h4⟩
 | ret=>
  simp only [ylv] at h2
  obtain⟨v,h3,h4⟩:=zyf h2
  exact⟨v,m',by simp only [h3];rfl,h4⟩
 | exit i=>exact h2.elim
theorem Fc.enter (hE:Lim Γ X E) {f:Nat} {args:List V} {r:V} {cf:CF} (hX:X f=none) (hc:Γ f=some cf) (h:yft E 0 cf args [] fun v m'=>yg3 m' v fun d=>Ret d r):Fc E f args r:=by
 obtain⟨v,m',h1,h2⟩:=(In.enter hE hX hc h).got
 obtain⟨d,h3,h4⟩:=yan _ _ _ h2
 exact⟨v,m',h1,by rw [h3,h4.eq]⟩
theorem Fc.extern (hE:Lim Γ X E) {f:Nat} {args:List V} {r v:V} {m':Mem} {x:List V->Mem->Option (V×Mem)} (hX:X f=some x) (h:x args []=some (v,m')) (ht:z73 m' v=some r):Fc E f args r:=
 ⟨v,m',by rw [hE.fix];simp only [step,hX,h];rfl,ht⟩
theorem In.extern (hE:Lim Γ X E) {lv f:Nat} {args:List V} {m:Mem} {K:V->Mem->Prop} {v:V} {m':Mem} {x:List V->Mem->Option (V×Mem)} (hX:X f=some x) (h:x args m=some (v,m')) (hk:K v m'):In E lv f args m K:=
 ⟨v,m',by rw [hE.fix];simp only [step,hX,h];rfl,hk⟩
theorem za1.of {f:Nat} {args:List V} {r:V} {K:V->Prop} (h:Fc E f args r) (hk:K r):za1 E f args K:=⟨r,h,hk⟩
def z27 (E:Oracle) (cx:Cx) (live:List Nat) (keep:List Id) (body:C) (K:Ex->Env->Mem->Prop) (x:Ex) (e:Env) (m:Mem):Prop:=
 match x with
 | .normal=>yd3 e live fun e2=>gcK keep e2 m fun m2=>zal E cx live keep body e2 m2 K
 | .exit i=>K (.exit i) e m
 | .ret=>K .ret e m
theorem zal.step (hE:Lim Γ X E) {cx:Cx} {live:List Nat} {keep:List Id} {body:C} {e:Env} {m:Mem} {K:Ex->Env->Mem->Prop} (h:wpC E cx body e m (z27 E cx live keep body K)):zal E cx live keep body e m K:=by
 obtain⟨x,e',m',h1,h2⟩:=wpC_ok _ _ _ _ h
 refine⟨?_⟩
 rw [hE.fix]
 simp only [Go.Evl.step,h1]
 cases x with
 | normal=>
  simp only [z27,z2f,yc9] at h2
  exact h2.got
 | exit i=>exact⟨_,_,_,rfl,h2⟩
 | ret=>exact⟨_,_,_,rfl,h2⟩
theorem zal.mono {cx:Cx} {live:List Nat} {keep:List Id} {body:C} {e:Env} {m:Mem} {K K':Ex->Env->Mem->Prop} (h:zal E cx live keep body e m K) (hk:∀x e m,K x e m->K' x e m):zal E cx live keep body e m K':=by
 obtain⟨x,e',m',h1,h2⟩:=h.got
 exact⟨x,e',m',h1,hk _ _ _ h2⟩
def ylm:List Nat->List V->Env->(Env->Prop)->Prop
 | t::r,v::s,e,K=>yj0 e t v fun e'=>ylm r s e' K
 | [],_,e,K=>K e
 | _::_,[],e,K=>K e
theorem yfd:∀(ps:List Nat) (vs:List V) (e:Env) (K:Env->Prop),ylm ps vs e K=K (yjr ps vs e)
 | [],[],e,K=>rfl
 | [],_::_,e,K=>rfl
 | _::_,[],e,K=>rfl
 | t::r,v::s,e,K=>by simp only [ylm,yjr,z2i,yfd r s]
def z95 (o:Id) (ks:List Id) (K:V->Mem->Prop) (x:Ex) (_:Env) (m2:Mem):Prop:=zke m2 o fun ob=>
 match ob with
 | some (.loop e' ps' a' b' lv' true false _)=>
  (match x with
  | .normal=>zva m2 o (.loop e' ps' a' b' lv' false false none) fun m3=>gcK ks [] m3 fun m4=>K (.d (.bool true)) m4
  | .exit id=>zva m2 o (.loop e' ps' a' b' lv' false true (some (.exit id))) fun m3=>K (.d (.bool false)) m3
  | .ret=>zva m2 o (.loop e' ps' a' b' lv' false true (some .ret)) fun m3=>K (.d (.bool false)) m3)
 | _=>False
def z96 (E:Oracle) (nx:Nat) (o:Id) (lv:Nat) (b:C) (ks:List Id) (K:V->Mem->Prop) (x:Ex) (e1:Env) (m1:Mem):Prop:=
 match x with
 | .normal=>zke m1 o fun ob=>
  (match ob with
  | some (.loop e' ps' a' b' lv' false false j')=>zva m1 o (.loop e' ps' a' b' lv' true false j') fun m2=>wpC E ⟨lv,nx⟩ b e1 m2 (z95 o ks K)
  | _=>False)
 | _=>False
def yhq (E:Oracle) (nx:Nat) (o:Id) (args:List V) (m:Mem) (K:V->Mem->Prop):Prop:=zke m o fun ob=>
 match ob with
 | some (.loop e ps a b lv false false _)=>
  (match Nat.beq ps.length args.length with
  | true=>ylm ps args e fun e0=>z6v m fun ks=>wpC E ⟨lv,nx⟩ a e0 m (z96 E nx o lv b ks K)
  | false=>False)
 | _=>False
theorem Rnd.enter (hE:Lim Γ X E) {nx:Nat} {o:Id} {args:List V} {m:Mem} {K:V->Mem->Prop} (h:yhq E nx o args m K):Rnd E nx o args m K:=by
 refine⟨?_⟩
 rw [hE.fix]
 simp only [yhq,zcv] at h
 simp only [Go.Evl.step]
 split at h
 ·rename_i hl
  simp only [hl]
  split at h
  ·rename_i hlen
   rw [if_pos (Nat.eq_of_beq_eq_true hlen)]
   simp only [yfd,zsu] at h
   obtain⟨x,e1,m1,h1,h2⟩:=wpC_ok _ _ _ _ h
   simp only [h1]
   cases x with
   | normal=>
    simp only [z96,zcv] at h2
    split at h2
    ·rename_i hl1
     simp only [hl1]
     rw [zdq] at h2
     obtain⟨x,e2,m2,h3,h4⟩:=wpC_ok _ _ _ _ h2
     simp only [h3]
     simp only [z95,zcv] at h4
     split at h4
     ·rename_i hl2
      simp only [hl2]
      cases x with
      | normal=>
       simp only [zdq,yc9] at h4
       exact⟨_,_,rfl,h4⟩
      | exit i=>
       simp only [zdq] at h4
       exact⟨_,_,rfl,h4⟩
      | ret=>
       simp only [zdq] at h4
       exact⟨_,_,rfl,h4⟩
     ·exact h4.elim
    ·exact h2.elim
   | exit i=>exact h2.elim
   | ret=>exact h2.elim
  ·exact h.elim
 ·exact h.elim
end
end Go.Evl
