
/-
 The evaluator's limit, and what is to be shown for code to end well.
-/
import Derived.Test.YtnabmkmhbncidabGreatDoorEvSyn
namespace Go.Evl
def Le (F G:Oracle):Prop:=∀q r,F q=some r->G q=some r
structure z68 (It:Nat->Oracle) (E:Oracle):Prop where
 up:∀n,Le (It n) (It (n+1))
 lim:∀q r,E q=some r↔∃n,It n q=some r
theorem z68.le {It:Nat->Oracle} {E:Oracle} (h:z68 It E) {n m:Nat} (hnm:n<=m):Le (It n) (It m):=by
 induction hnm with
 | refl=>exact fun _ _ h=>h
 | step _ ih=>exact fun q r hq=>h.up _ q r (ih q r hq)
structure zb6 {α:Type} (It:Nat->Oracle) (E:Oracle) (f:Oracle->Option α):Prop where
 mono:∀F G,Le F G->∀r,f F=some r->f G=some r
 reach:∀r,f E=some r->∃n,f (It n)=some r
section
variable {It : Nat -> Oracle} {E : Oracle} {α β : Type}
theorem zb6.const {f:Oracle->Option α} (h:∀F G,f F=f G):zb6 It E f:=
 ⟨fun F G _ _ hr=>(h G F).trans hr,fun _ hr=>⟨0,(h _ E).trans hr⟩⟩
theorem zb6.query (hc:z68 It E) (q:Req):zb6 It E (fun F=>F q):=
 ⟨fun _ _ h r hr=>h q r hr,fun r hr=>(hc.lim q r).1 hr⟩
theorem zb6.bind (hc:z68 It E) {f:Oracle->Option α} {k:α->Oracle->Option β} (hf:zb6 It E f) (hk:∀a,zb6 It E (k a)):zb6 It E (fun F=>(f F).bind fun a=>k a F):=by
 refine⟨fun F G h r hr=> ?_,fun r hr=> ?_⟩
 ·obtain⟨a,h1,h2⟩:=Option.bind_eq_some_iff.1 hr
  exact Option.bind_eq_some_iff.2 ⟨a,hf.mono F G h a h1,(hk a).mono F G h r h2⟩
 ·obtain⟨a,h1,h2⟩:=Option.bind_eq_some_iff.1 hr
  obtain⟨n,hn⟩:=hf.reach a h1
  obtain⟨k',hk'⟩:=(hk a).reach r h2
  refine⟨max n k',Option.bind_eq_some_iff.2 ⟨a,hf.mono _ _ (hc.le (Nat.le_max_left _ _)) a hn,(hk a).mono _ _ (hc.le (Nat.le_max_right _ _)) r hk'⟩⟩
theorem zb6.of_eq {f g:Oracle->Option α} (h:∀F,f F=g F) (hg:zb6 It E g):zb6 It E f:=by
 have:f=g:=funext h
 rw [this];exact hg
theorem zmu {p:Prop} [Decidable p] {f g:Oracle->Option α} (hf:zb6 It E f) (hg:zb6 It E g):zb6 It E (fun F=>if p then f F else g F):=by
 by_cases h:p
 ·exact zb6.of_eq (fun F=>if_pos h) hf
 ·exact zb6.of_eq (fun F=>if_neg h) hg
variable (hc : z68 It E)
include hc
theorem z03 (cx:Cx) (f:V) (args:List V) (m:Mem):zb6 It E (fun F=>zig F cx f args m):=by
 cases f with
 | fn f first caps=>
  refine zb6.of_eq (g:=fun F=>(F (.call cx.nx f (first ++args++caps) m)).bind fun r=>match r with| .val v m'=>some (v,m')|_=>none) (fun F=> ?_) (zb6.bind hc (zb6.query hc _) fun r=>zb6.const fun _ _=>rfl)
  simp only [zig]
  cases F (.call cx.nx f (first ++args++caps) m) with
  | none=>rfl
  | some r=>cases r<;>rfl
 | yld o=>
  refine zb6.of_eq (g:=fun F=>(F (.round cx.nx o args m)).bind fun r=>match r with| .val v m'=>some (v,m')|_=>none) (fun F=> ?_) (zb6.bind hc (zb6.query hc _) fun r=>zb6.const fun _ _=>rfl)
  simp only [zig]
  cases F (.round cx.nx o args m) with
  | none=>rfl
  | some r=>cases r<;>rfl
 | _=>exact zb6.const fun _ _=>rfl
theorem zm5 (cx:Cx) (slot:Nat) (shared imm:Bool) (f:V) (args:List V) (m:Mem):zb6 It E (fun F=>zko F cx slot shared imm f args m):=by
 unfold zko
 refine zmu (zmu ?_ (zb6.const fun _ _=>rfl)) ?_
 ·refine zb6.of_eq (g:=fun F=>(zig F cx f args m).bind fun p=>if zkq cx.nx (idsAll (ze5 cx.nx p.2)) then zpr cx slot cx.nx imm (ze5 cx.nx p.2) p.2 p.1 else none) (fun F=> ?_) (zb6.bind hc (z03 hc cx f args m) fun r=>zb6.const fun _ _=>rfl)
  cases zig F cx f args m<;>rfl
 ·cases f with
  | fn f first caps=>
   dsimp only
   generalize zd6 false m (first ++args++caps)=o
   cases o with
   | none=>exact zb6.const fun _ _=>rfl
   | some ds=>
    refine zb6.of_eq (g:=fun F=>(F (.call 0 f (asV ds) [])).bind fun r=>match r with| .val v m'=>zpr cx slot 0 imm m m' v|_=>none) (fun F=> ?_) (zb6.bind hc (zb6.query hc _) fun r=>zb6.const fun _ _=>rfl)
    simp only
    cases F (.call 0 f (asV ds) []) with
    | none=>rfl
    | some r=>cases r<;>rfl
  | _=>exact zb6.const fun _ _=>rfl
theorem yaa (f:V) (args:List V) (m:Mem):zb6 It E (fun F=>zv9 F f args m):=by
 cases f with
 | fn f first caps=>
  simp only [zv9]
  refine zmu ?_ (zb6.const fun _ _=>rfl)
  refine zb6.of_eq (g:=fun F=>(F (.call 1 f (zwy (number ⟨0,0⟩ 0 0 (reach 0 m 64 (ze1 (first ++args++caps)) [])) (first ++args++caps)) (moved (number ⟨0,0⟩ 0 0 (reach 0 m 64 (ze1 (first ++args++caps)) [])) m (number ⟨0,0⟩ 0 0 (reach 0 m 64 (ze1 (first ++args++caps)) []))))).bind fun r=>match r with
   | .val v m1=>if z8f m1 (moved (number ⟨0,0⟩ 0 0 (reach 0 m 64 (ze1 (first ++args++caps)) [])) m (number ⟨0,0⟩ 0 0 (reach 0 m 64 (ze1 (first ++args++caps)) [])))&&(ids v).all (fun i=>((number ⟨0,0⟩ 0 0 (reach 0 m 64 (ze1 (first ++args++caps)) [])).map (·.2)).elem i) then some (ren (zpw (number ⟨0,0⟩ 0 0 (reach 0 m 64 (ze1 (first ++args++caps)) []))) v) else none
   | _=>none) (fun F=> ?_) (zb6.bind hc (zb6.query hc _) fun r=>zb6.const fun _ _=>rfl)
  generalize number ⟨0,0⟩ 0 0 (reach 0 m 64 (ze1 (first ++args++caps)) [])=σ
  cases F (.call 1 f (zwy σ (first ++args++caps)) (moved σ m σ)) with
  | none=>rfl
  | some r=>cases r<;>rfl
 | _=>exact zb6.const fun _ _=>rfl
theorem z04 (imm:Bool) (f:V) (args:List V) (m:Mem):zb6 It E (fun F=>zwa F imm f args m):=by
 cases f with
 | fn f first caps=>
  simp only [zwa]
  refine zmu ?_ (zb6.const fun _ _=>rfl)
  refine zb6.of_eq (g:=fun F=>(F (.call 1 f (zwy (number ⟨0,0⟩ 0 0 (reach 0 m 64 (ze1 ((first ++args++caps).map (z2h m))) [])) ((first ++args++caps).map (z2h m))) (moved (number ⟨0,0⟩ 0 0 (reach 0 m 64 (ze1 ((first ++args++caps).map (z2h m))) [])) m (number ⟨0,0⟩ 0 0 (reach 0 m 64 (ze1 ((first ++args++caps).map (z2h m))) []))))).bind fun r=>match r with
   | .val v m1=>
    if imm then
     if zkq 1 (zmy (moved (number ⟨0,0⟩ 0 0 (reach 0 m 64 (ze1 ((first ++args++caps).map (z2h m))) [])) m (number ⟨0,0⟩ 0 0 (reach 0 m 64 (ze1 ((first ++args++caps).map (z2h m))) []))))&&zkq 1 (idsAll (ze5 1 m1)) then
      match zpr ⟨0,1⟩ 0 1 true (ze5 1 m1) m1 v with
      | some (v',m2)=>if(ids v').all (fun i=>((number ⟨0,0⟩ 0 0 (reach 0 m 64 (ze1 ((first ++args++caps).map (z2h m))) [])).map (·.2)).elem i) then(zxc (number ⟨0,0⟩ 0 0 (reach 0 m 64 (ze1 ((first ++args++caps).map (z2h m))) [])) m2 (number ⟨0,0⟩ 0 0 (reach 0 m 64 (ze1 ((first ++args++caps).map (z2h m))) [])) m).map fun m'=>(ren (zpw (number ⟨0,0⟩ 0 0 (reach 0 m 64 (ze1 ((first ++args++caps).map (z2h m))) []))) v',m') else none
      | none=>none
     else none
    else if(ids v).all (fun i=>((number ⟨0,0⟩ 0 0 (reach 0 m 64 (ze1 ((first ++args++caps).map (z2h m))) [])).map (·.2)).elem i) then(zxc (number ⟨0,0⟩ 0 0 (reach 0 m 64 (ze1 ((first ++args++caps).map (z2h m))) [])) m1 (number ⟨0,0⟩ 0 0 (reach 0 m 64 (ze1 ((first ++args++caps).map (z2h m))) [])) m).map fun m'=>(ren (zpw (number ⟨0,0⟩ 0 0 (reach 0 m 64 (ze1 ((first ++args++caps).map (z2h m))) []))) v,m') else none
   | _=>none) (fun F=> ?_) (zb6.bind hc (zb6.query hc _) fun r=>zb6.const fun _ _=>rfl)
  generalize number ⟨0,0⟩ 0 0 (reach 0 m 64 (ze1 ((first ++args++caps).map (z2h m))) [])=σ
  cases F (.call 1 f (zwy σ ((first ++args++caps).map (z2h m))) (moved σ m σ)) with
  | none=>rfl
  | some r=>cases r<;>rfl
 | _=>exact zb6.const fun _ _=>rfl
theorem z02 {γ:Type} {run:Oracle->γ->Option α} (h:∀a,zb6 It E (fun F=>run F a)):∀l:List γ,zb6 It E (fun F=>yfk (run F) l)
 | []=>zb6.const fun _ _=>rfl
 | a::r=>zb6.bind hc (h a) fun _=>zb6.bind hc (z02 h r) fun _=>zb6.const fun _ _=>rfl
theorem z7q {run:Oracle->Mem->Option (V×Mem)} (h:∀m,zb6 It E (fun F=>run F m)) (m:Mem) (v:V):zb6 It E (fun F=>zpi (run F) m v):=by
 unfold zpi
 split
 ·split
  ·exact zmu (zb6.bind hc (h _) fun _=>zb6.bind hc (z02 hc (fun _=>h _) _) fun _=>zb6.const fun _ _=>rfl) (zb6.const fun _ _=>rfl)
  ·exact h m
 ·exact h m
theorem zsj {body:Oracle->Env->Mem->Option (Ex×Env×Mem)} (h:∀e m,zb6 It E (fun F=>body F e m)) (it:Nat) (i:Id) (out nxt pair:Nat) (live:List Nat) (keep:List Id):
  ∀(l:List (D×V)) (e:Env) (m:Mem),zb6 It E (fun F=>zix (body F) it i out nxt pair live keep l e m)
 | [],_,_=>zb6.const fun _ _=>rfl
 | (k,v)::r,e,m=>by
  refine zb6.bind hc (h _ _) fun p=> ?_
  unfold zkk
  split
  ·exact zmu (zsj h it i out nxt pair live keep r _ _) (zb6.const fun _ _=>rfl)
  ·exact zb6.const fun _ _=>rfl
theorem z7s {body:Oracle->Env->Mem->Option (Ex×Env×Mem)} (h:∀e m,zb6 It E (fun F=>body F e m)) (cx:Cx) (it:Nat) (x:Opd) (out nxt pair:Nat) (live:List Nat) (e:Env) (m:Mem):
  zb6 It E (fun F=>zq9 (body F) cx it x out nxt pair live e m):=by
 unfold zq9
 split
 ·split
  ·exact zb6.bind hc (zb6.bind hc (zsj hc h _ _ _ _ _ _ _ _ _ _) fun _=>zb6.bind hc (z02 hc (fun _=>zsj hc h _ _ _ _ _ _ _ _ _ _) _) fun _=>zb6.const fun _ _=>rfl) fun _=>zb6.const fun _ _=>rfl
  ·exact zb6.const fun _ _=>rfl
 ·exact zb6.const fun _ _=>rfl
theorem z7r (cx:Cx) (slot:Nat) (e:Env) (m:Mem) (op:COp):zb6 It E (fun F=>zcn F cx slot e m op):=by
 cases op with
 | call s i f args=>exact zm5 hc cx slot s i _ _ m
 | callD f args=>
  simp only [zcn]
  split
  ·split
   ·exact zm5 hc cx slot false true _ _ m
   ·exact zb6.const fun _ _=>rfl
  ·exact zb6.const fun _ _=>rfl
 | callK i f args=>
  refine zb6.of_eq (g:=fun F=>(zko F cx slot true i (zr6 (f.ev e)) (evs e args) m).bind fun p=>if leM m p.2 m=true then some (p.1,m) else none) (fun F=> ?_) (zb6.bind hc (zm5 hc cx slot true i _ _ m) fun p=>zb6.const fun _ _=>rfl)
  simp only [zcn]
  cases zko F cx slot true i (zr6 (f.ev e)) (evs e args) m<;>rfl
 | callQ f args=>
  refine zb6.of_eq (g:=fun F=>(zv9 F (zr6 (f.ev e)) (evs e args) m).bind fun v=>some (v,m)) (fun F=> ?_) (zb6.bind hc (yaa hc _ _ m) fun p=>zb6.const fun _ _=>rfl)
  simp only [zcn]
  cases zv9 F (zr6 (f.ev e)) (evs e args) m<;>rfl
 | callU b f args=>exact z04 hc b _ _ m
 | callN f args=>
  simp only [zcn]
  split
  ·split
   ·exact zm5 hc cx slot false false _ _ m
   ·exact zb6.const fun _ _=>rfl
  ·exact zb6.const fun _ _=>rfl
 | callB i f args b=>exact z7q hc (fun m=>zm5 hc cx slot true i _ _ m) m _
 | callR i f args rs=>
  refine zb6.of_eq (g:=fun F=>(zko F cx slot true i (zr6 (f.ev e)) (evs e args) m).bind fun p=>if yam m p.2 (rs.map (get e))=true then some p else none) (fun F=> ?_) (zb6.bind hc (zm5 hc cx slot true i _ _ m) fun p=>zb6.const fun _ _=>rfl)
  simp only [zcn]
  cases zko F cx slot true i (zr6 (f.ev e)) (evs e args) m<;>rfl
 | _=>exact zb6.const fun _ _=>rfl
theorem yei (cx:Cx) (e:Env) (m:Mem) (o:CO):zb6 It E (fun F=>zd3 F cx e m o):=by
 obtain⟨dst,guard,op⟩:=o
 cases guard with
 | none=>exact z7r hc cx _ e m op
 | some g=>
  obtain⟨t,want⟩:=g
  simp only [zd3]
  split
  ·split
   ·exact z7r hc cx _ e m op
   ·exact zb6.const fun _ _=>rfl
  ·exact zb6.const fun _ _=>rfl
  ·exact zb6.const fun _ _=>rfl
theorem zp2 (cx:Cx):∀(os:List CO) (e:Env) (m:Mem),zb6 It E (fun F=>ziw F cx os e m)
 | [],e,m=>zb6.const fun _ _=>rfl
 | o::r,e,m=>by
  refine zb6.of_eq (g:=fun F=>(zd3 F cx e m o).bind fun p=>ziw F cx r (put? e o.dst p.1) p.2) (fun F=> ?_) (zb6.bind hc (yei hc cx e m o) fun p=>zp2 cx r _ _)
  simp only [ziw]
  cases zd3 F cx e m o<;>rfl
def yoc:Res->Option (Ex×Env×Mem)
 | .st x e' m'=>some (x,e',m')
 | _=>none
def ykb (cx:Cx) (i:Id) (e:Env):Res->Option (Ex×Env×Mem)
 | .val _ m'=>
  match look m' i with
  | some (.loop _ _ _ _ _ false _ j)=>
   if zkq cx.nx (idsAll (ze5 cx.nx m')) then
    let m2:=upd (ze5 cx.nx m') i .gone
    match j with
    | none=>some (.normal,e,m2)
    | some j=>some (j.ex,e,m2)
   else none
  | _=>none
 | _=>none
theorem zj9 (cx:Cx):∀(c:C) (e:Env) (m:Mem),zb6 It E (fun F=>evC F cx c e m)
 | .skip,e,m=>zb6.const fun _ _=>rfl
 | .label,e,m=>zb6.const fun _ _=>rfl
 | .exit _,e,m=>zb6.const fun _ _=>rfl
 | .ret,e,m=>zb6.const fun _ _=>rfl
 | .bad,e,m=>zb6.const fun _ _=>rfl
 | .scope c,e,m=>by simp only [evC];exact zj9 cx c e m
 | .reg _ ops kill,e,m=>by
  refine zb6.of_eq (g:=fun F=>(ziw F cx ops e m).bind fun p=>some (.normal,zdi kill p.1,p.2)) (fun F=> ?_) (zb6.bind hc (zp2 hc cx ops e m) fun p=>zb6.const fun _ _=>rfl)
  simp only [evC]
  cases ziw F cx ops e m<;>rfl
 | .regC ops kill chk,e,m=>zb6.bind hc (zp2 hc cx ops e m) fun p=>zb6.const fun _ _=>rfl
 | .seq a b,e,m=>by
  refine zb6.of_eq (g:=fun F=>(evC F cx a e m).bind fun p=>match p with|(.normal,e',m')=>evC F cx b e' m'|p=>some p) (fun F=> ?_) (zb6.bind hc (zj9 cx a e m) fun p=> ?_)
  ·simp only [evC]
   cases evC F cx a e m with
   | none=>rfl
   | some p=>obtain⟨x,e',m'⟩:=p;cases x<;>rfl
  ·obtain⟨x,e',m'⟩:=p
   cases x with
   | normal=>exact zj9 cx b e' m'
   | _=>exact zb6.const fun _ _=>rfl
 | .cond c a b,e,m=>by
  simp only [evC]
  split
  ·exact zmu (zj9 cx a e m) (zj9 cx b e m)
  ·exact zb6.const fun _ _=>rfl
 | .block id c,e,m=>by
  refine zb6.of_eq (g:=fun F=>(evC F cx c e m).bind fun p=>match p with|(.exit j,e',m')=>if j=id then some (.normal,e',m') else some (.exit j,e',m')|p=>some p) (fun F=> ?_) (zb6.bind hc (zj9 cx c e m) fun p=>zb6.const fun _ _=>rfl)
  simp only [evC]
  cases evC F cx c e m with
  | none=>rfl
  | some p=>obtain⟨x,e',m'⟩:=p;cases x<;>rfl
 | .loop live c,e,m=>by
  refine zb6.of_eq (g:=fun F=>(F (.loop cx live (zmy m) c (only live e) (gc (zmy m) (only live e) m))).bind yoc) (fun F=> ?_) (zb6.bind hc (zb6.query hc _) fun p=>zb6.const fun _ _=>rfl)
  simp only [evC]
  cases F (.loop cx live (zmy m) c (only live e) (gc (zmy m) (only live e) m)) with
  | none=>rfl
  | some r=>cases r<;>rfl
 | .rangeM pre it x out nxt pair live ops kill code,e,m=>by
  simp only [evC]
  exact zb6.bind hc (zp2 hc cx pre e m) fun p=>z7s hc (fun e m=>zb6.bind hc (zp2 hc cx ops e m) fun q=>zj9 cx code _ _) _ _ _ _ _ _ _ _ _
 | .rangeFn slot f ps a b,e,m=>by
  simp only [evC]
  refine zmu ?_ (zb6.const fun _ _=>rfl)
  cases f.ev e with
  | fn g first caps=>
   refine zb6.of_eq (g:=fun F=>(F (.call cx.nx g (first ++[.yld (newId cx slot m)]++caps) (upd m (newId cx slot m) (.loop e ps a b cx.lv false false none)))).bind (ykb cx (newId cx slot m) e)) (fun F=> ?_) (zb6.bind hc (zb6.query hc _) fun p=>zb6.const fun _ _=>rfl)
   simp only
   cases F (.call cx.nx g (first ++[.yld (newId cx slot m)]++caps) (upd m (newId cx slot m) (.loop e ps a b cx.lv false false none))) with
   | none=>rfl
   | some r=>cases r<;>rfl
  | _=>exact zb6.const fun _ _=>rfl
theorem z7t (Γ:Nat->Option CF) (X:Extern) (q:Req):zb6 It E (fun F=>step Γ X F q):=by
 cases q with
 | call lv f args m=>
  simp only [step]
  cases X f with
  | some x=>exact zb6.const fun _ _=>rfl
  | none=>
   cases Γ f with
   | none=>exact zb6.const fun _ _=>rfl
   | some cf=>
    refine zb6.of_eq (g:=fun F=>(evC F ⟨lv,lv+1⟩ cf.body (params 0 args) m).bind fun p=>match p with|(.normal,e,m')=>(results m' e cf.results).map fun v=> .val v m'|(.ret,e,m')=>(results m' e cf.results).map fun v=> .val v m'|_=>none) (fun F=> ?_) (zb6.bind hc (zj9 hc _ _ _ _) fun p=>zb6.const fun _ _=>rfl)
    simp only
    cases evC F ⟨lv,lv+1⟩ cf.body (params 0 args) m with
    | none=>rfl
    | some p=>obtain⟨x,e',m'⟩:=p;cases x<;>rfl
 | round nx o args m=>
  simp only [step]
  split
  ·rename_i e ps a b lv j hl
   refine zmu ?_ (zb6.const fun _ _=>rfl)
   refine zb6.of_eq (g:=fun F=>(evC F ⟨lv,nx⟩ a (yni ps args e) m).bind fun p=>match p with
    | (.normal,e1,m1)=>(match look m1 o with
     | some (.loop e' ps' a' b' lv' false false j')=>(evC F ⟨lv,nx⟩ b e1 (upd m1 o (.loop e' ps' a' b' lv' true false j'))).bind fun p=>match p with
      | (x,_,m2)=>match look m2 o with
       | some (.loop e' ps' a' b' lv' true false _)=>(match x with
        | .normal=>some (.val (.d (.bool true)) (gc (zmy m) [] (upd m2 o (.loop e' ps' a' b' lv' false false none))))
        | .exit id=>some (.val (.d (.bool false)) (upd m2 o (.loop e' ps' a' b' lv' false true (some (.exit id)))))
        | .ret=>some (.val (.d (.bool false)) (upd m2 o (.loop e' ps' a' b' lv' false true (some .ret)))))
       | _=>none
     | _=>none)
    | _=>none) (fun F=> ?_) (zb6.bind hc (zj9 hc _ _ _ _) fun p=> ?_)
   ·simp only
    cases evC F ⟨lv,nx⟩ a (yni ps args e) m with
    | none=>rfl
    | some p=>
     obtain⟨x,e',m'⟩:=p
     cases x with
     | normal=>
      simp only [Option.bind]
      split
      ·rename_i e2 ps2 a2 b2 lv2 j2 hlk
       simp only [hlk]
       cases evC F ⟨lv,nx⟩ b e' (upd m' o (.loop e2 ps2 a2 b2 lv2 true false j2)) with
       | none=>rfl
       | some p=>rfl
      ·rename_i hno
       split
       ·rename_i hlk
        exact absurd hlk (hno _ _ _ _ _ _)
       ·rfl
     | exit id=>rfl
     | ret=>rfl
   ·obtain⟨x,e1,m1⟩:=p
    cases x with
    | normal=>
     simp only
     split
     ·exact zb6.bind hc (zj9 hc _ _ _ _) fun p=>zb6.const fun _ _=>rfl
     ·exact zb6.const fun _ _=>rfl
    | _=>exact zb6.const fun _ _=>rfl
  ·exact zb6.const fun _ _=>rfl
 | loop cx live keep body e m=>
  simp only [step]
  refine zb6.of_eq (g:=fun F=>(evC F cx body e m).bind fun p=>match p with|(.normal,e',m')=>F (.loop cx live keep body (only live e') (gc keep (only live e') m'))|(x,e',m')=>some (.st x e' m')) (fun F=> ?_) (zb6.bind hc (zj9 hc _ _ _ _) fun p=> ?_)
  ·cases evC F cx body e m with
   | none=>rfl
   | some p=>obtain⟨x,e',m'⟩:=p;cases x<;>rfl
  ·obtain⟨x,e',m'⟩:=p
   cases x with
   | normal=>exact zb6.query hc _
   | _=>exact zb6.const fun _ _=>rfl
end
structure Lim (Γ:Nat->Option CF) (X:Extern) (E:Oracle):Prop where
 fix:∀q,E q=step Γ X E q
 reach:∀q r,E q=some r->∃n,iter Γ X n q=some r
theorem z2b {Γ:Nat->Option CF} {X:Extern} {F G:Oracle} (h:Le F G):Le (step Γ X F) (step Γ X G):=by
 have hc:z68 (fun _=>G) G:=⟨fun _ _ _ h=>h,fun _ _=>⟨fun h=>⟨0,h⟩,fun h=>h.elim fun _ h=>h⟩⟩
 exact fun q r hr=>(z7t hc Γ X q).mono F G h r hr
theorem yal (Γ:Nat->Option CF) (X:Extern):∀n,Le (iter Γ X n) (iter Γ X (n+1))
 | 0=>fun _ _ h=>by simp [iter] at h
 | n+1=>z2b (yal Γ X n)
theorem exists_lim (Γ:Nat->Option CF) (X:Extern):∃E,Lim Γ X E:=by
 have hd:∀q:Req,∃a:Option Res,∀r,a=some r↔∃n,iter Γ X n q=some r:=by
  intro q
  by_cases h:∃r,∃n,iter Γ X n q=some r
  ·obtain⟨r,n,hn⟩:=h
   refine⟨some r,fun r'=>⟨fun h=>⟨n,by rw [hn,h]⟩,fun⟨k,hk⟩=> ?_⟩⟩
   have up:∀a b,a<=b->Le (iter Γ X a) (iter Γ X b):=by
    intro a b hab
    induction hab with
    | refl=>exact fun _ _ h=>h
    | step _ ih=>exact fun q r hq=>yal Γ X _ q r (ih q r hq)
   rw [<-up n (max n k) (Nat.le_max_left _ _) q r hn,up k (max n k) (Nat.le_max_right _ _) q r' hk]
  ·exact⟨none,fun r=>⟨fun h=>(nomatch h),fun hn=>absurd ⟨r,hn⟩ h⟩⟩
 have ⟨E,hE⟩:=Classical.axiomOfChoice hd
 have hc:z68 (iter Γ X) E:=⟨yal Γ X,hE⟩
 refine⟨E,⟨fun q=> ?_,fun q r h=>(hE q r).1 h⟩⟩
 apply Option.ext
 intro r
 constructor
 ·intro h
  obtain⟨n,hn⟩:=(hE q r).1 h
  cases n with
  | zero=>simp [iter] at hn
  | succ n=>exact z2b (fun q r h=>(hE q r).2 ⟨n,h⟩) q r hn
 ·intro h
  obtain⟨n,hn⟩:=(z7t hc Γ X q).reach r h
  exact(hE q r).2 ⟨n+1,hn⟩
theorem Lim.of_iter {Γ:Nat->Option CF} {X:Extern} {E:Oracle} (h:Lim Γ X E):∀(n:Nat) (q:Req) (r:Res),iter Γ X n q=some r->E q=some r
 | 0,_,_,hn=>by simp [iter] at hn
 | n+1,q,r,hn=>by
  rw [h.fix]
  exact z2b (fun q r=>h.of_iter n q r) q r hn
end Go.Evl
namespace Go.Evl
structure zeb (p k:Prop):Prop where
 need:p
 go:k
structure Br (t:Bool) (a b:Prop):Prop where
 yes:t=true->a
 no:t=false->b
structure Cmp (p a b:Prop):Prop where
 yes:p->a
 no:¬p->b
structure Wr (k:IntKind) (x:Int) (K:Int->Prop):Prop where
 go:K (k.wrap x)
structure Rem (a b:Int) (K:Int->Prop):Prop where
 ne:b≠0
 go:K (a.tmod b)
structure Quo (k:IntKind) (a b:Int) (K:Int->Prop):Prop where
 ne:b≠0
 go:K (k.wrap (a.tdiv b))
structure zf3 (cs:List D) (off:Nat) (K:D->Prop):Prop where
 got:∃d,cs[off]? =some d/\K d
structure yd9 (cs:List V) (off:Nat) (K:V->Prop):Prop where
 got:∃d,cs[off]? =some d/\K d
structure z48 (cs:List D) (off n:Nat) (K:List D->Prop):Prop where
 le:off+n<=cs.length
 go:K (win cs off n)
structure yfq (s:List UInt8) (i:Nat) (K:UInt8->Prop):Prop where
 got:∃b,s[i]? =some b/\K b
structure z0d {α:Type} (o:Option α) (K:α->Prop):Prop where
 got:∃a,o=some a/\K a
def Fc (E:Oracle) (f:Nat) (args:List V) (r:V):Prop:=∃v m',E (.call 0 f args [])=some (.val v m')/\ybu m' v=some r
structure zah (E:Oracle) (f:Nat) (args:List V) (K:V->Prop):Prop where
 got:∃r,Fc E f args r/\K r
structure zf2 (E:Oracle) (f:Nat) (args:List V) (cx:Cx) (slot:Nat) (m:Mem) (K:V->Mem->Prop):Prop where
 got:∃v m' p,E (.call 0 f args [])=some (.val v m')/\settle cx slot 0 m m' v=some p/\K p.1 p.2
structure In (E:Oracle) (lv f:Nat) (args:List V) (m:Mem) (K:V->Mem->Prop):Prop where
 got:∃v m',E (.call lv f args m)=some (.val v m')/\K v m'
structure Rnd (E:Oracle) (nx:Nat) (o:Id) (args:List V) (m:Mem) (K:V->Mem->Prop):Prop where
 got:∃v m',E (.round nx o args m)=some (.val v m')/\K v m'
structure zaj (E:Oracle) (cx:Cx) (live:List Nat) (keep:List Id) (body:C) (e:Env) (m:Mem) (K:Ex->Env->Mem->Prop):Prop where
 got:∃x e' m',E (.loop cx live keep body e m)=some (.st x e' m')/\K x e' m'
structure Chk (b:Bool) (k:Prop):Prop where
 need:b=true
 go:k
structure Ret (a b:V):Prop where
 eq:a=b
def yjk:Env->Nat->(V->Prop)->Prop
 | [],_,K=>K .undef
 | (u,v)::r,t,K=>match Nat.beq u t with
  | true=>K v
  | false=>yjk r t K
theorem zu3:∀(e:Env) (t:Nat) (K:V->Prop),yjk e t K=K (get e t)
 | [],_,_=>rfl
 | (u,v)::r,t,K=>by
  simp only [yjk,get]
  cases h:Nat.beq u t with
  | true=>simp [Nat.eq_of_beq_eq_true h]
  | false=>
   have:u≠t:=fun hh=>by rw [hh,Nat.beq_refl] at h;cases h
   simp only [if_neg this]
   exact zu3 r t K
def opK (e:Env) (x:Opd) (K:V->Prop):Prop:=
 match x with
 | .t n=>yjk e n K
 | .k v=>K v
theorem zcb (e:Env) (x:Opd) (K:V->Prop):opK e x K=K (x.ev e):=by
 cases x with
 | t n=>exact zu3 e n K
 | k v=>rfl
def z9x (e:Env):List Opd->(List V->Prop)->Prop
 | [],K=>K []
 | x::r,K=>opK e x fun v=>z9x e r fun vs=>K (v::vs)
theorem zk2 (e:Env):∀(l:List Opd) (K:List V->Prop),z9x e l K=K (evs e l)
 | [],_=>rfl
 | x::r,K=>by simp only [z9x,evs,zcb,zk2 e r]
def yel (e:Env):List Nat->(List V->Prop)->Prop
 | [],K=>K []
 | t::r,K=>yjk e t fun v=>yel e r fun vs=>K (v::vs)
theorem zzu (e:Env):∀(l:List Nat) (K:List V->Prop),yel e l K=K (l.map (get e))
 | [],_=>rfl
 | t::r,K=>by simp only [yel,zu3,zzu e r,List.map_cons]
def opK? (e:Env) (x:Option Opd) (K:Option V->Prop):Prop:=
 match x with
 | none=>K none
 | some x=>opK e x fun v=>K (some v)
theorem opK?_eq (e:Env) (x:Option Opd) (K:Option V->Prop):opK? e x K=K (x.map (·.ev e)):=by
 cases x with
 | none=>rfl
 | some x=>exact zcb e x _
def yoh:Env->Nat->V->(Env->Prop)->Prop
 | [],t,v,K=>K [(t,v)]
 | (u,x)::r,t,v,K=>match Nat.beq u t with
  | true=>K ((t,v)::r)
  | false=>yoh r t v fun r'=>K ((u,x)::r')
theorem ya9:∀(e:Env) (t:Nat) (v:V) (K:Env->Prop),yoh e t v K=K (put e t v)
 | [],_,_,_=>rfl
 | (u,x)::r,t,v,K=>by
  simp only [yoh,put]
  cases h:Nat.beq u t with
  | true=>simp [Nat.eq_of_beq_eq_true h]
  | false=>
   have:u≠t:=fun hh=>by rw [hh,Nat.beq_refl] at h;cases h
   simp only [if_neg this]
   exact ya9 r t v _
def put?K (e:Env) (t:Option Nat) (v:V) (K:Env->Prop):Prop:=
 match t with
 | none=>K e
 | some t=>yoh e t v K
theorem put?K_eq (e:Env) (t:Option Nat) (v:V) (K:Env->Prop):put?K e t v K=K (put? e t v):=by
 cases t with
 | none=>rfl
 | some t=>exact ya9 e t v K
def yo7:List Nat->Nat->Bool
 | [],_=>false
 | u::r,t=>match Nat.beq u t with
  | true=>true
  | false=>yo7 r t
theorem yg3:∀(l:List Nat) (t:Nat),yo7 l t=l.elem t
 | [],_=>rfl
 | u::r,t=>by
  simp only [yo7]
  cases h:Nat.beq u t with
  | true=>simp [Nat.eq_of_beq_eq_true h]
  | false=>
   have:t≠u:=fun hh=>by rw [hh,Nat.beq_refl] at h;cases h
   simp only [yg3 r t,List.elem_cons]
   have:(t==u)=false:=by simpa using this
   rw [this]
def zth (kill:List Nat):Env->(Env->Prop)->Prop
 | [],K=>K []
 | (u,v)::r,K=>match yo7 kill u with
  | true=>zth kill r K
  | false=>zth kill r fun r'=>K ((u,v)::r')
theorem zre (kill:List Nat):∀(e:Env) (K:Env->Prop),zth kill e K=K (zdi kill e)
 | [],_=>rfl
 | (u,v)::r,K=>by
  simp only [zth,yg3]
  cases h:kill.elem u with
  | true=>
   have hm:u∈kill:=by simpa using h
   simp only [zre kill r];simp [zdi,hm]
  | false=>
   have hm:u∉kill:=by simpa using h
   simp only [zre kill r];simp [zdi,hm]
def yev (e:Env):List Nat->(Env->Prop)->Prop
 | [],K=>K []
 | t::r,K=>yjk e t fun v=>yev e r fun r'=>K ((t,v)::r')
theorem zzz (e:Env):∀(live:List Nat) (K:Env->Prop),yev e live K=K (only live e)
 | [],_=>rfl
 | t::r,K=>by simp only [yev,zu3,zzz e r];rfl
def idB (i j:Id):Bool:=
 match Nat.beq i.slot j.slot with
 | true=>(match Nat.beq i.lv j.lv with
  | true=>Nat.beq i.k j.k
  | false=>false)
 | false=>false
theorem z5z {i j:Id} (h:idB i j=true):i=j:=by
 obtain⟨a,b,c⟩:=i
 obtain⟨x,y,z⟩:=j
 simp only [idB] at h
 split at h
 ·rename_i h1
  split at h
  ·rename_i h2
   rw [Nat.eq_of_beq_eq_true h1,Nat.eq_of_beq_eq_true h2,Nat.eq_of_beq_eq_true h]
  ·cases h
 ·cases h
theorem z1i {i j:Id} (h:idB i j=false):i≠j:=by
 rintro rfl
 obtain⟨a,b,c⟩:=i
 simp [idB,Nat.beq_refl] at h
def zl4:Mem->Id->(Option Ob->Prop)->Prop
 | [],_,K=>K none
 | (j,o)::r,i,K=>match idB j i with
  | true=>K (some o)
  | false=>zl4 r i K
theorem zc4:∀(m:Mem) (i:Id) (K:Option Ob->Prop),zl4 m i K=K (look m i)
 | [],_,_=>rfl
 | (j,o)::r,i,K=>by
  simp only [zl4,look]
  cases h:idB j i with
  | true=>simp [z5z h]
  | false=>simp only [if_neg (z1i h)];exact zc4 r i K
def zzm:Mem->Id->Ob->(Mem->Prop)->Prop
 | [],i,o,K=>K [(i,o)]
 | (j,x)::r,i,o,K=>match idB j i with
  | true=>K ((i,o)::r)
  | false=>zzm r i o fun r'=>K ((j,x)::r')
theorem zex:∀(m:Mem) (i:Id) (o:Ob) (K:Mem->Prop),zzm m i o K=K (upd m i o)
 | [],_,_,_=>rfl
 | (j,x)::r,i,o,K=>by
  simp only [zzm,upd]
  cases h:idB j i with
  | true=>simp [z5z h]
  | false=>simp only [if_neg (z1i h)];exact zex r i o _
def yg1:List Id->Id->Bool
 | [],_=>false
 | u::r,t=>match idB u t with
  | true=>true
  | false=>yg1 r t
theorem yg2:∀(l:List Id) (t:Id),yg1 l t=l.elem t
 | [],_=>rfl
 | u::r,t=>by
  simp only [yg1]
  cases h:idB u t with
  | true=>simp [z5z h]
  | false=>
   have h':t≠u:=fun hh=>z1i h hh.symm
   simp only [yg2 r t,List.elem_cons]
   have:(t==u)=false:=by simpa using h'
   rw [this]
def gcF (a b c:List Id):Mem->(Mem->Prop)->Prop
 | [],K=>K []
 | (i,o)::r,K=>match yg1 a i with
  | true=>gcF a b c r fun r'=>K ((i,o)::r')
  | false=>(match yg1 b i with
   | true=>gcF a b c r fun r'=>K ((i,o)::r')
   | false=>(match yg1 c i with
    | true=>gcF a b c r fun r'=>K ((i,o)::r')
    | false=>gcF a b c r K))
theorem ylb (a b c:List Id):∀(m:Mem) (K:Mem->Prop),gcF a b c m K=K (m.filter fun p=>a.elem p.1||b.elem p.1||c.elem p.1)
 | [],_=>rfl
 | (i,o)::r,K=>by
  simp only [gcF,yg2]
  cases ha:a.elem i<;>cases hb:b.elem i<;>cases hc:c.elem i<;>simp only [ylb a b c r,List.filter_cons,ha,hb,hc]<;>rfl
def gcK (keep:List Id) (e:Env) (m:Mem) (K:Mem->Prop):Prop:=
 match m with
 | []=>K []
 | _::_=>gcF keep (yfl e) (idsAll m) m fun m1=>gcF keep (yfl e) (idsAll m1) m1 fun m2=>gcF keep (yfl e) (idsAll m2) m2 K
theorem z8a (keep:List Id) (e:Env) (m:Mem) (K:Mem->Prop):gcK keep e m K=K (gc keep e m):=by
 cases m with
 | nil=>rfl
 | cons p r=>simp only [gcK,ylb];rfl
def z1g (lv slot:Nat):Mem->(Nat->Prop)->Prop
 | [],K=>K 0
 | (j,_)::r,K=>match Nat.beq j.slot slot with
  | true=>(match Nat.beq j.lv lv with
   | true=>z1g lv slot r fun n=>K (max (j.k+1) n)
   | false=>z1g lv slot r K)
  | false=>z1g lv slot r K
theorem zso (lv slot:Nat):∀(m:Mem) (K:Nat->Prop),z1g lv slot m K=K (freeK lv slot m)
 | [],_=>rfl
 | (j,o)::r,K=>by
  simp only [z1g,freeK]
  cases h1:Nat.beq j.slot slot with
  | false=>
   have:j.slot≠slot:=fun hh=>by rw [hh,Nat.beq_refl] at h1;cases h1
   simp only [this,and_false,if_false]
   exact zso lv slot r K
  | true=>
   cases h2:Nat.beq j.lv lv with
   | false=>
    have:j.lv≠lv:=fun hh=>by rw [hh,Nat.beq_refl] at h2;cases h2
    simp only [this,false_and,if_false]
    exact zso lv slot r K
   | true=>simp only [Nat.eq_of_beq_eq_true h1,Nat.eq_of_beq_eq_true h2,and_self,if_true,zso lv slot r]
def yg5 (cx:Cx) (slot:Nat) (m:Mem) (K:Id->Prop):Prop:=z1g cx.lv slot m fun n=>K ⟨cx.lv,slot,n⟩
theorem zpp (cx:Cx) (slot:Nat) (m:Mem) (K:Id->Prop):yg5 cx slot m K=K (newId cx slot m):=zso _ _ _ _
def yak (cx:Cx) (slot:Nat):List ybz->Mem->(List V->Mem->Prop)->Prop
 | [],m,K=>K [] m
 | .z x::r,m,K=>yak cx slot r m fun vs m'=>K (.d x::vs) m'
 | .own s::r,m,K=>yg5 cx slot m fun i=>zzm m i (.row s.wr s.t s.sz 0 []) fun m1=>yak cx slot r m1 fun vs m'=>K (.ref i 0 0 0::vs) m'
theorem zzv (cx:Cx) (slot:Nat):∀(l:List ybz) (m:Mem) (K:List V->Mem->Prop),yak cx slot l m K=K (zbh cx slot l m).1 (zbh cx slot l m).2
 | [],_,_=>rfl
 | .z x::r,m,K=>by simp only [yak,zbh,zzv cx slot r]
 | .own s::r,m,K=>by simp only [yak,zbh,zpp,zex,zzv cx slot r]
mutual
def zh4 (any:Bool) (m:Mem):V->(D->Prop)->Prop
 | .d x,K=>K x
 | .agg cs,K=>zwj any m cs fun ds=>K (.agg ds)
 | .fn f [] [],K=>K (.fn f)
 | .ref o off len top,K=>zl4 m o fun x=>
  match x with
  | some (.row wr _ sz n xs)=>
   (match (!wr||any) with
   | true=>zeb (n=top/\off+len<=n) (K (.list len (if off=0/\len=n then xs else win xs (off*sz) (len*sz))))
   | false=>False)
  | _=>False
 | _,_=>False
def zwj (any:Bool) (m:Mem):List V->(List D->Prop)->Prop
 | [],K=>K []
 | v::r,K=>zh4 any m v fun d=>zwj any m r fun ds=>K (d::ds)
end
mutual
theorem zs5 (any:Bool) (m:Mem):∀(v:V) (K:D->Prop),zh4 any m v K->∃d,freeze any m v=some d/\K d
 | .d x,K,h=>⟨x,rfl,h⟩
 | .agg cs,K,h=>by
  obtain⟨ds,h1,h2⟩:=zqy any m cs _ h
  exact⟨_,by simp only [freeze,h1];rfl,h2⟩
 | .ref o off len top,K,h=>by
  simp only [zh4,zc4] at h
  simp only [freeze]
  cases hl:look m o with
  | none=>rw [hl] at h;exact h.elim
  | some x=>
   rw [hl] at h
   cases x with
   | row wr t sz n xs=>
    simp only at h ⊢
    split at h
    ·rename_i hw
     have hc:(wr=false\/any=true)/\n=top/\off+len<=n:=⟨by cases wr<;>simp_all,h.need⟩
     exact⟨_,if_pos hc,h.go⟩
    ·exact h.elim
   | _=>exact h.elim
 | .tup _,_,h=>(by simp only [zh4] at h)
 | .ptr ..,_,h=>(by simp only [zh4] at h)
 | .lptr ..,_,h=>(by simp only [zh4] at h)
 | .fn f [] [],K,h=>⟨_,rfl,h⟩
 | .fn _ (_::_) _,_,h=>(by simp only [zh4] at h)
 | .fn _ [] (_::_),_,h=>(by simp only [zh4] at h)
 | .yld _,_,h=>(by simp only [zh4] at h)
 | .mp _,_,h=>(by simp only [zh4] at h)
 | .it _,_,h=>(by simp only [zh4] at h)
 | .skip,_,h=>(by simp only [zh4] at h)
 | .undef,_,h=>(by simp only [zh4] at h)
theorem zqy (any:Bool) (m:Mem):∀(vs:List V) (K:List D->Prop),zwj any m vs K->∃ds,zd6 any m vs=some ds/\K ds
 | [],K,h=>⟨[],rfl,h⟩
 | v::r,K,h=>by
  obtain⟨d,h1,h2⟩:=zs5 any m v _ h
  obtain⟨ds,h3,h4⟩:=zqy any m r _ h2
  exact⟨d::ds,by simp only [zd6,h1,h3],h4⟩
end
def ynk:List D->(List V->Prop)->Prop
 | [],K=>K []
 | x::r,K=>ynk r fun vs=>K (.d x::vs)
theorem z5d:∀(l:List D) (K:List V->Prop),ynk l K=K (asV l)
 | [],_=>rfl
 | x::r,K=>by simp only [ynk,asV,z5d r]
def yky (m:Mem) (v:V) (K:V->Prop):Prop:=
 match v with
 | .tup vs=>zwj true m vs fun xs=>ynk xs fun ys=>K (.tup ys)
 | v=>zh4 true m v fun d=>K (.d d)
theorem yd5 (m:Mem) (v:V) (K:V->Prop) (h:yky m v K):∃r,ybu m v=some r/\K r:=by
 have simple:∀v:V,(∀vs,v≠ .tup vs)->zh4 true m v (fun d=>K (.d d))->∃r,ybu m v=some r/\K r:=by
  intro v hv h
  obtain⟨d,h1,h2⟩:=zs5 true m v _ h
  refine⟨.d d,?_,h2⟩
  unfold ybu
  split
  ·rename_i vs;exact absurd rfl (hv vs)
  ·rw [h1];rfl
 cases v with
 | tup vs=>
  obtain⟨xs,h1,h2⟩:=zqy true m vs _ h
  rw [z5d] at h2
  exact⟨_,by simp only [ybu,h1];rfl,h2⟩
 | _=>exact simple _ (by intro vs hh;cases hh) h
def yi4:List V->(Option (List D)->Prop)->Prop
 | [],K=>K (some [])
 | .d x::r,K=>yi4 r fun o=>
  match o with
  | some ds=>K (some (x::ds))
  | none=>K none
 | _::_,K=>K none
theorem yb3:∀(l:List V) (K:Option (List D)->Prop),yi4 l K=K (zt5 l)
 | [],_=>rfl
 | v::r,K=>by
  cases v with
  | d x=>simp only [yi4,zt5,yb3 r];cases zt5 r<;>rfl
  | _=>rfl
def yo4 (cs:List V) (K:V->Prop):Prop:=yi4 cs fun o=>
 match o with
 | some ds=>K (.d (.agg ds))
 | none=>K (.agg cs)
theorem yfx (cs:List V) (K:V->Prop):yo4 cs K=K (yaq cs):=by
 simp only [yo4,yb3,yaq]
 cases zt5 cs<;>rfl
def z7l (v:V) (K:List V->Prop):Prop:=
 match v with
 | .d (.agg cs)=>ynk cs K
 | .agg cs=>K cs
 | .tup _=>False
 | .skip=>False
 | .undef=>False
 | v=>K [v]
theorem z00 (v:V) (K:List V->Prop) (h:z7l v K):∃cs,cellsOf v=some cs/\K cs:=by
 cases v with
 | d x=>
  cases x with
  | agg cs=>simp only [z7l,z5d] at h;exact⟨_,rfl,h⟩
  | _=>exact⟨_,rfl,h⟩
 | tup _=>exact h.elim
 | skip=>exact h.elim
 | undef=>exact h.elim
 | _=>exact⟨_,rfl,h⟩
def over {α:Type}:List α->Nat->List α->List α
 | cs,0,[]=>cs
 | _::cs,0,x::xs=>x::over cs 0 xs
 | c::cs,n+1,xs=>c::over cs n xs
 | [],_,_=>[]
theorem z8t {α:Type}:∀(cs xs:List α),xs.length<=cs.length->over cs 0 xs=xs++cs.drop xs.length
 | cs,[],_=>by simp [over]
 | [],x::xs,h=>by simp at h
 | c::cs,x::xs,h=>by
  simp only [over,z8t cs xs (by simpa using h)]
  simp
theorem ya5 {α:Type}:∀(cs:List α) (off:Nat) (xs:List α),off+xs.length<=cs.length->over cs off xs=patch cs off xs
 | cs,0,xs,h=>by
  rw [z8t cs xs (by omega)]
  simp [patch]
 | [],n+1,xs,h=>by simp at h
 | c::cs,n+1,xs,h=>by
  simp only [over,ya5 cs n xs (by simp at h;omega),patch]
  simp [Nat.add_right_comm]
def z28 {α:Type}:List α->Nat->List α->(List α->Prop)->Prop
 | cs,0,[],K=>K cs
 | _::cs,0,x::xs,K=>z28 cs 0 xs fun r=>K (x::r)
 | c::cs,n+1,xs,K=>z28 cs n xs fun r=>K (c::r)
 | [],_,_,K=>K []
theorem zz0 {α:Type}:∀(cs:List α) (off:Nat) (xs:List α) (K:List α->Prop),z28 cs off xs K=K (over cs off xs)
 | cs,0,[],K=>by simp only [z28,over]
 | [],0,x::xs,K=>by simp only [z28,over]
 | c::cs,0,x::xs,K=>by simp only [z28,over,zz0 cs 0 xs]
 | [],n+1,xs,K=>by simp only [z28,over]
 | c::cs,n+1,xs,K=>by simp only [z28,over,zz0 cs n xs]
def yme (cs:List V):List (Nat×Nat×V)->(List V->Prop)->Prop
 | [],K=>K cs
 | (off,n,v)::r,K=>z7l v fun xs=>
  match Nat.beq xs.length n with
  | true=>(match Nat.ble (off+n) cs.length with
   | true=>z28 cs off xs fun cs'=>yme cs' r K
   | false=>False)
  | false=>False
theorem yci:∀(l:List (Nat×Nat×V)) (cs:List V) (K:List V->Prop),yme cs l K->∃cs',z73 cs l=some cs'/\K cs'
 | [],cs,K,h=>⟨cs,rfl,h⟩
 | (off,n,v)::r,cs,K,h=>by
  obtain⟨xs,h1,h2⟩:=z00 v _ h
  split at h2
  ·rename_i e1
   split at h2
   ·rename_i e2
    have e1':=Nat.eq_of_beq_eq_true e1
    have e2':=Nat.le_of_ble_eq_true e2
    rw [zz0] at h2
    obtain⟨cs',h3,h4⟩:=yci r _ K h2
    refine⟨cs',?_,h4⟩
    simp only [z73,h1]
    rw [if_pos ⟨e1',e2'⟩,<-ya5 cs off xs (by omega)]
    exact h3
   ·exact h2.elim
  ·exact h2.elim
def ydg (e:Env):List (Nat×Nat×Opd)->(List (Nat×Nat×V)->Prop)->Prop
 | [],K=>K []
 | (a,b,x)::r,K=>opK e x fun v=>ydg e r fun l=>K ((a,b,v)::l)
theorem z8u (e:Env):∀(l:List (Nat×Nat×Opd)) (K:List (Nat×Nat×V)->Prop),ydg e l K=K (zwv e l)
 | [],_=>rfl
 | (a,b,x)::r,K=>by simp only [ydg,zwv,zcb,z8u e r]
def z98 (m:Mem) (v:V) (K:List D->Prop):Prop:=zh4 false m v fun d=>
 match d with
 | .agg cs=>K cs
 | x=>K [x]
theorem z3s (m:Mem) (v:V) (K:List D->Prop) (h:z98 m v K):∃cs,zrf m v=some cs/\K cs:=by
 obtain⟨d,h1,h2⟩:=zs5 false m v _ h
 unfold zrf
 rw [h1]
 cases d<;>exact⟨_,rfl,h2⟩
def z8i (sz:Nat) (m:Mem):List V->(List D->Prop)->Prop
 | [],K=>K []
 | v::r,K=>z98 m v fun x=>match Nat.beq x.length sz with
  | true=>z8i sz m r fun xs=>K (x++xs)
  | false=>False
theorem zwo (sz:Nat) (m:Mem):∀(l:List V) (K:List D->Prop),z8i sz m l K->∃ds,zr4 sz m l=some ds/\K ds
 | [],K,h=>⟨[],rfl,h⟩
 | v::r,K,h=>by
  obtain⟨x,h1,h2⟩:=z3s m v _ h
  split at h2
  ·rename_i e
   obtain⟨xs,h3,h4⟩:=zwo sz m r _ h2
   refine⟨x++xs,?_,h4⟩
   simp only [zr4,h1,h3,if_pos (Nat.eq_of_beq_eq_true e)]
  ·exact h2.elim
structure zt3 (n:Nat) (l h:Int) (K:Nat->Nat->Prop):Prop where
 ok:0<=h/\h<=n/\0<=l/\l<=h
 go:K l.toNat h.toNat
def zxf (n:Nat) (lo hi:Option V) (K:Nat->Nat->Prop):Prop:=
 match lo,hi with
 | none,none=>K 0 n
 | some (.d (.int _ l)),none=>zt3 n l n K
 | none,some (.d (.int _ h))=>zt3 n 0 h K
 | some (.d (.int _ l)),some (.d (.int _ h))=>zt3 n l h K
 | _,_=>False
theorem zs4 (n:Nat) (lo hi:Option V) (K:Nat->Nat->Prop) (h:zxf n lo hi K):∃p,zco n lo hi=some p/\K p.1 p.2:=by
 unfold zxf at h
 split at h
 ·refine⟨(0,n),?_,h⟩
  simp [zco]
 ·rename_i k l
  refine⟨(l.toNat,(n:Int).toNat),?_,h.go⟩
  simp only [zco,asI]
  exact if_pos h.ok
 ·rename_i k l
  refine⟨((0:Int).toNat,l.toNat),?_,h.go⟩
  simp only [zco,asI]
  exact if_pos h.ok
 ·rename_i k l k' l'
  refine⟨(l.toNat,l'.toNat),?_,h.go⟩
  simp only [zco,asI]
  exact if_pos h.ok
 ·exact h.elim
def yhm (n:Option Nat) (cs:List V) (off:Nat) (K:V->Prop):Prop:=
 match n with
 | none=>yd9 cs off K
 | some n=>zeb (off+n<=cs.length) (yo4 (win cs off n) K)
theorem z8w (n:Option Nat) (cs:List V) (off:Nat) (K:V->Prop) (h:yhm n cs off K):∃v,yew n cs off=some v/\K v:=by
 cases n with
 | none=>obtain⟨d,h1,h2⟩:=h.got;exact⟨d,h1,h2⟩
 | some n=>obtain⟨h1,h2⟩:=h;rw [yfx] at h2;exact⟨_,if_pos h1,h2⟩
def z8v (n:Option Nat) (cs:List D) (off:Nat) (K:V->Prop):Prop:=
 match n with
 | none=>zf3 cs off fun d=>K (.d d)
 | some n=>z48 cs off n fun ds=>K (.d (.agg ds))
theorem zwx (n:Option Nat) (cs:List D) (off:Nat) (K:V->Prop) (h:z8v n cs off K):∃v,z29 n cs off=some v/\K v:=by
 cases n with
 | none=>obtain⟨d,h1,h2⟩:=h.got;exact⟨_,by simp only [z29,h1];rfl,h2⟩
 | some n=>obtain⟨h1,h2⟩:=h;exact⟨_,if_pos h1,h2⟩
def yjw (n:Option Nat) (m:Mem) (a:V) (K:V->Prop):Prop:=
 match a with
 | .lptr cs off=>z8v n cs off K
 | .ptr o off top=>zl4 m o fun x=>
  match x with
  | some (.cells _ cs)=>yhm n cs off K
  | some (.row _ _ _ l xs)=>zeb (l=top) (z8v n xs off K)
  | _=>False
 | _=>False
theorem yc2 (n:Option Nat) (m:Mem) (a:V) (K:V->Prop) (h:yjw n m a K):∃v,z1r n m a=some v/\K v:=by
 unfold yjw at h
 split at h
 ·exact zwx _ _ _ _ h
 ·rename_i o off top
  rw [zc4] at h
  simp only [z1r]
  split at h
  ·rename_i hl;rw [hl];exact z8w _ _ _ _ h
  ·rename_i hl;rw [hl]
   obtain⟨v,h1,h2⟩:=zwx _ _ _ _ h.go
   exact⟨v,(if_pos h.need).trans h1,h2⟩
  ·exact h.elim
 ·exact h.elim
def yd1 (n:Nat) (m:Mem) (a x:V) (K:Mem->Prop):Prop:=
 match a with
 | .ptr o off top=>zl4 m o fun y=>
  match y with
  | some (.cells t cs)=>z7l x fun xs=>zeb (xs.length=n/\off+n<=cs.length) (z28 cs off xs fun cs'=>zzm m o (.cells t cs') K)
  | some (.row true t sz l xs)=>z98 m x fun ds=>zeb (ds.length=n/\off+n<=xs.length/\l=top) (zzm m o (.row true t sz l (patch xs off ds)) K)
  | _=>False
 | _=>False
theorem z9r (n:Nat) (m:Mem) (a x:V) (K:Mem->Prop) (h:yd1 n m a x K):∃m',zw5 n m a x=some m'/\K m':=by
 unfold yd1 at h
 split at h
 ·rename_i o off top
  rw [zc4] at h
  simp only [zw5]
  split at h
  ·rename_i hl;rw [hl]
   obtain⟨xs,h1,h2,h3⟩:=z00 x _ h
   rw [zz0,zex,ya5 _ _ _ (by omega)] at h3
   simp only [h1]
   exact⟨_,if_pos h2,h3⟩
  ·rename_i hl;rw [hl]
   obtain⟨ds,h1,h2,h3⟩:=z3s m x _ h
   rw [zex] at h3
   simp only [h1]
   exact⟨_,if_pos h2,h3⟩
  ·exact h.elim
 ·exact h.elim
def yia (sz:Nat) (m:Mem) (x:V) (lo hi mx:Option V) (K:V->Prop):Prop:=
 match x with
 | .d (.list n cs)=>zxf n lo hi fun l h=>
  match mx with
  | none=>K (.d (.list (h-l) (win cs (l*sz) ((h-l)*sz))))
  | some _=>zeb (hi.isSome/\mx.bind asI=hi.bind asI) (K (.d (.list (h-l) (win cs (l*sz) ((h-l)*sz)))))
 | .ref o off len top=>zl4 m o fun y=>
  match y with
  | some (.row wr _ sz' n xs)=>zeb (n=top/\off+len<=n/\sz'=sz) (zxf len lo hi fun l h=>
   match mx with
   | none=>(match wr with
    | true=>K (.ref o (off+l) (h-l) top)
    | false=>K (.d (.list (h-l) (win xs ((off+l)*sz) ((h-l)*sz)))))
   | some _=>False)
  | _=>False
 | .d .nil=>zxf 0 lo hi fun _ _=>
  match mx with
  | none=>K (.d .nil)
  | some _=>False
 | _=>False
theorem yib (sz:Nat) (m:Mem) (x:V) (lo hi mx:Option V) (K:V->Prop) (h:yia sz m x lo hi mx K):∃v,zue sz m x lo hi mx=some v/\K v:=by
 unfold yia at h
 split at h
 ·obtain⟨p,h1,h2⟩:=zs4 _ _ _ _ h
  obtain⟨l,hh⟩:=p
  simp only [zue,h1]
  cases mx with
  | none=>exact⟨_,if_pos (Or.inl rfl),h2⟩
  | some y=>exact⟨_,if_pos (Or.inr h2.need),h2.go⟩
 ·rename_i o off len top
  rw [zc4] at h
  simp only [zue]
  split at h
  ·rename_i wr t1 sz1 n1 xs1 hl;rw [hl]
   obtain⟨h0,h⟩:=h
   obtain⟨p,h1,h2⟩:=zs4 _ _ _ _ h
   obtain⟨l,hh⟩:=p
   simp only [if_pos h0,h1]
   cases mx with
   | none=>
    cases wr with
    | true=>exact⟨_,by simp,h2⟩
    | false=>exact⟨_,by simp,h2⟩
   | some y=>exact h2.elim
  ·exact h.elim
 ·obtain⟨p,h1,h2⟩:=zs4 _ _ _ _ h
  simp only [zue,h1]
  cases mx with
  | none=>exact⟨_,if_pos rfl,h2⟩
  | some y=>exact h2.elim
 ·exact h.elim
def z54 (sz:Nat) (m:Mem) (x i:V) (K:V->Prop):Prop:=
 match i with
 | .d (.int _ i)=>
  (match x with
  | .d (.list n cs)=>zeb (0<=i/\i<n) (K (.lptr cs (i.toNat*sz)))
  | .ref o off len top=>zl4 m o fun y=>
   match y with
   | some (.row _ _ sz' n _)=>zeb (0<=i/\i<len/\n=top/\off+len<=n/\sz'=sz) (K (.ptr o ((off+i.toNat)*sz) top))
   | _=>False
  | _=>False)
 | _=>False
theorem yaj (sz:Nat) (m:Mem) (x i:V) (K:V->Prop) (h:z54 sz m x i K):∃v,zmx sz m x i=some v/\K v:=by
 unfold z54 at h
 split at h
 ·split at h
  ·exact⟨_,if_pos h.need,h.go⟩
  ·rw [zc4] at h
   split at h
   ·rename_i hl;simp only [zmx,asI,hl];exact⟨_,if_pos h.need,h.go⟩
   ·exact h.elim
  ·exact h.elim
 ·exact h.elim
def yjy (off:Nat) (m:Mem) (v:V) (K:V->Prop):Prop:=
 match v with
 | .lptr cs b=>K (.lptr cs (b+off))
 | .ptr o b top=>zl4 m o fun x=>
  match x with
  | some (.cells ..)=>K (.ptr o (b+off) top)
  | some (.row _ _ _ n _)=>zeb (n=top) (K (.ptr o (b+off) top))
  | _=>False
 | _=>False
theorem yc8 (off:Nat) (m:Mem) (v:V) (K:V->Prop) (h:yjy off m v K):∃r,zgv off m v=some r/\K r:=by
 unfold yjy at h
 split at h
 ·exact⟨_,rfl,h⟩
 ·rw [zc4] at h
  split at h
  ·rename_i hl;exact⟨_,by simp only [zgv,z67,hl];rfl,h⟩
  ·rename_i hl;exact⟨_,by simp only [zgv,z67,hl,h.need];simp,h.go⟩
  ·exact h.elim
 ·exact h.elim
def yj3 (n:Option Nat) (x:V) (off:Nat) (K:V->Prop):Prop:=
 match x with
 | .d (.agg cs)=>z8v n cs off K
 | .agg cs=>yhm n cs off K
 | _=>False
theorem ydf (n:Option Nat) (x:V) (off:Nat) (K:V->Prop) (h:yj3 n x off K):∃r,ya6 n x off=some r/\K r:=by
 unfold yj3 at h
 split at h
 ·exact zwx _ _ _ _ h
 ·exact z8w _ _ _ _ h
 ·exact h.elim
def ypv (m:Mem) (k:Kd) (v:V) (K:Nat->Prop):Prop:=
 match k with
 | .str=>(match v with
  | .d (.str s)=>K s.length
  | _=>False)
 | .slc=>(match v with
  | .d (.list n _)=>K n
  | .d .nil=>K 0
  | .ref o _ len top=>zl4 m o fun x=>
   match x with
   | some (.row _ _ _ n _)=>zeb (n=top) (K len)
   | _=>False
  | _=>False)
 | .map=>(match v with
  | .mp o=>zl4 m o fun x=>
   match x with
   | some (.map es)=>K es.length
   | _=>False
  | _=>False)
 | .cap=>(match v with
  | .d .nil=>K 0
  | _=>False)
theorem ymo (m:Mem) (k:Kd) (v:V) (K:Nat->Prop) (h:ypv m k v K):∃n,yfn m k v=some n/\K n:=by
 unfold ypv at h
 split at h
 ·split at h
  ·exact⟨_,rfl,h⟩
  ·exact h.elim
 ·split at h
  ·exact⟨_,rfl,h⟩
  ·exact⟨_,rfl,h⟩
  ·rw [zc4] at h
   split at h
   ·rename_i hl;exact⟨_,by simp only [yfn,hl];exact if_pos h.need,h.go⟩
   ·exact h.elim
  ·exact h.elim
 ·split at h
  ·rw [zc4] at h
   split at h
   ·rename_i hl;exact⟨_,by simp only [yfn,hl],h⟩
   ·exact h.elim
  ·exact h.elim
 ·split at h
  ·exact⟨_,rfl,h⟩
  ·exact h.elim
def z7v (m:Mem) (v:V) (K:Nat->List D->Prop):Prop:=
 match v with
 | .d (.list n cs)=>K n cs
 | .d .nil=>K 0 []
 | .ref o off len top=>zl4 m o fun x=>
  match x with
  | some (.row _ _ sz n xs)=>zeb (n=top/\off+len<=n) (K len (if off=0/\len=n then xs else win xs (off*sz) (len*sz)))
  | _=>False
 | _=>False
theorem z07 (m:Mem) (v:V) (K:Nat->List D->Prop) (h:z7v m v K):∃p,z06 m v=some p/\K p.1 p.2:=by
 unfold z7v at h
 split at h
 ·exact⟨_,rfl,h⟩
 ·exact⟨_,rfl,h⟩
 ·rw [zc4] at h
  split at h
  ·rename_i hl;exact⟨_,by simp only [z06,hl];exact if_pos h.need,h.go⟩
  ·exact h.elim
 ·exact h.elim
def zvk (cx:Cx) (slot:Nat) (r:zdc) (m:Mem) (k:Nat) (ds:List D) (s:V) (K:V->Mem->Prop):Prop:=
 match s with
 | .ref o off len top=>zl4 m o fun x=>
  match x with
  | some (.row wr t sz n xs)=>
   zeb (off=0/\len=n/\n=top/\t=r.t/\sz=r.sz/\ds.length=k*sz/\(n+k)*r.by_<=140737488355328/\n+k<=140737488355328)
    (zzm m o (.row wr t sz (n+k) (xs++ds)) fun m'=>K (.ref o 0 (n+k) (n+k)) m')
  | _=>False
 | .d .nil=>zeb (k≠0/\ds.length=k*r.sz/\k*r.by_<=140737488355328/\k<=140737488355328) (yg5 cx slot m fun i=>zzm m i (.row r.wr r.t r.sz k ds) fun m'=>K (.ref i 0 k k) m')
 | _=>False
theorem zug (cx:Cx) (slot:Nat) (r:zdc) (m:Mem) (k:Nat) (ds:List D) (s:V) (K:V->Mem->Prop) (h:zvk cx slot r m k ds s K):
  ∃p,zqj cx slot r m (some (k,ds)) s=some p/\K p.1 p.2:=by
 unfold zvk at h
 split at h
 ·rw [zc4] at h
  split at h
  ·rename_i hl
   obtain⟨⟨h1,h2,h3,h4,h5,h6,h7,h8⟩,h9⟩:=h
   rw [zex] at h9
   refine⟨(_,_),?_,h9⟩
   simp only [zqj,hl]
   exact if_pos ⟨h1,h2,h3,h4,h5,h6,by simp [z6s,h7,h8]⟩
  ·exact h.elim
 ·obtain⟨⟨h1,h2,h3,h4⟩,h9⟩:=h
  rw [zpp,zex] at h9
  refine⟨(_,_),?_,h9⟩
  simp only [zqj]
  exact if_pos ⟨h1,h2,by simp [z6s,h3,h4]⟩
 ·exact h.elim
def eqB:D->D->(Prop->Prop)->Prop
 | .int k a,.int l b,K=>(match decide (k=l) with
  | true=>K (a=b)
  | false=>False)
 | .bool a,.bool b,K=>K (a=b)
 | .str a,.str b,K=>K (a=b)
 | _,_,_=>False
def yl9:List D->List D->(Prop->Prop)->Prop
 | [],[],K=>K True
 | [x],[y],K=>eqB x y K
 | x::x2::r,y::y2::s,K=>eqB x y fun p=>yl9 (x2::r) (y2::s) fun q=>K (p/\q)
 | _,_,_=>False
theorem yk8 (x y:D) (K:Prop->Prop) (h:eqB x y K):∃b p,eqD x y=some b/\(b=true↔p)/\K p:=by
 unfold eqB at h
 split at h
 ·split at h
  ·rename_i a _ b _ e
   exact⟨decide (a=b),a=b,by simp only [eqD];exact if_pos (of_decide_eq_true e),by simp,h⟩
  ·exact h.elim
 ·rename_i a b
  exact⟨a==b,a=b,rfl,by simp,h⟩
 ·rename_i a b
  exact⟨a==b,a=b,rfl,by simp,h⟩
 ·exact h.elim
theorem ygc:∀(xs ys:List D) (K:Prop->Prop),yl9 xs ys K->∃b p,eqL xs ys=some b/\(b=true↔p)/\K p
 | [],[],_,h=>⟨true,True,rfl,by simp,h⟩
 | [x],[y],K,h=>by
  obtain⟨a,p,h1,h2,h3⟩:=yk8 x y _ h
  exact⟨a&&true,p,by simp only [eqL,h1],by simpa using h2,h3⟩
 | x::x2::r,y::y2::s,K,h=>by
  obtain⟨a,p,h1,h2,h3⟩:=yk8 x y _ h
  obtain⟨b,q,h4,h5,h6⟩:=ygc (x2::r) (y2::s) _ h3
  refine⟨a&&b,p/\q,?_,by simp [h2,h5],h6⟩
  rw [eqL,h1,h4]
 | [],_::_,_,h=>(by simp only [yl9] at h)
 | _::_,[],_,h=>(by simp only [yl9] at h)
 | [_],_::_::_,_,h=>(by simp only [yl9] at h)
 | _::_::_,[_],_,h=>(by simp only [yl9] at h)
def ypm (ks:Option (List KK)) (x y:V) (K:Bool->Prop):Prop:=
 match ks with
 | none=>
  (match x,y with
  | .d (.bool a),.d (.bool b)=>K (a==b)
  | _,_=>False)
 | some ks=>
  (match x,y with
  | .d (.agg a),.d (.agg b)=>
   (match zcm ks a&&zcm ks b with
   | true=>yl9 a b fun p=>Cmp p (K true) (K false)
   | false=>False)
  | _,_=>False)
theorem yma (ks:Option (List KK)) (x y:V) (K:Bool->Prop) (h:ypm ks x y K):∃b,eqV ks x y=some b/\K b:=by
 unfold ypm at h
 split at h
 ·split at h
  ·exact⟨_,rfl,h⟩
  ·exact h.elim
 ·split at h
  ·split at h
   ·rename_i hk
    obtain⟨b,p,h1,h2,h3⟩:=ygc _ _ _ h
    refine⟨b,by simp only [eqV];rw [if_pos hk];exact h1,?_⟩
    cases b with
    | true=>exact h3.yes (h2.1 rfl)
    | false=>exact h3.no fun hp=>Bool.noConfusion (h2.2 hp)
   ·exact h.elim
  ·exact h.elim
def yl6 (p:Prop) (K:D->Prop):Prop:=Cmp p (K (.bool true)) (K (.bool false))
theorem yf6 {p:Prop} [Decidable p] {K:D->Prop} (h:yl6 p K):K (.bool (decide p)):=by
 by_cases hp:p
 ·have:=h.yes hp;simpa [hp] using this
 ·have:=h.no hp;simpa [hp] using this
def ymv (p:Prop) (K:D->Prop):Prop:=Cmp p (K (.bool false)) (K (.bool true))
theorem ydb {p:Prop} [Decidable p] {K:D->Prop} (h:ymv p K):K (.bool (!decide p)):=by
 by_cases hp:p
 ·have:=h.yes hp;simpa [hp] using this
 ·have:=h.no hp;simpa [hp] using this
def z95 (op:BinOp) (k:IntKind) (a b:Int) (K:D->Prop):Prop:=
 match op with
 | .add=>Wr k (a+b) fun n=>K (.int k n)
 | .sub=>Wr k (a-b) fun n=>K (.int k n)
 | .mul=>Wr k (a*b) fun n=>K (.int k n)
 | .quo=>Quo k a b fun n=>K (.int k n)
 | .rem=>Rem a b fun n=>K (.int k n)
 | .and=>K (.int k (k.wrap ((BitVec.ofInt k.bits a&&&BitVec.ofInt k.bits b).toNat)))
 | .or=>K (.int k (k.wrap ((BitVec.ofInt k.bits a|||BitVec.ofInt k.bits b).toNat)))
 | .xor=>K (.int k (k.wrap ((BitVec.ofInt k.bits a^^^BitVec.ofInt k.bits b).toNat)))
 | .andNot=>K (.int k (k.wrap ((BitVec.ofInt k.bits a&&&~~~ BitVec.ofInt k.bits b).toNat)))
 | .eql=>yl6 (a=b) K
 | .neq=>ymv (a=b) K
 | .lss=>yl6 (a<b) K
 | .leq=>yl6 (a<=b) K
 | .gtr=>yl6 (b<a) K
 | .geq=>yl6 (b<=a) K
 | _=>False
theorem yee (op:BinOp) (k:IntKind) (a b:Int) (K:D->Prop) (h:z95 op k a b K):∃d,z0h op k a b=some d/\K d:=by
 cases op<;>simp only [z95] at h<;>simp only [z0h]
 all_goals first
  | exact⟨_,rfl,h.go⟩
  | exact⟨_,if_neg h.ne,h.go⟩
  | exact⟨_,rfl,h⟩
  | exact⟨_,rfl,yf6 h⟩
  | exact⟨_,rfl,ydb h⟩
def z96 (op:BinOp) (a b:List UInt8) (K:D->Prop):Prop:=
 match op with
 | .add=>zeb (a.length+b.length<=yc5) (K (.str (a++b)))
 | .eql=>yl6 (a=b) K
 | .neq=>ymv (a=b) K
 | .lss=>K (.bool (zap a b))
 | .leq=>K (.bool (zap a b||a==b))
 | .gtr=>K (.bool (!(zap a b||a==b)))
 | .geq=>K (.bool (!zap a b))
 | _=>False
theorem yef (op:BinOp) (a b:List UInt8) (K:D->Prop) (h:z96 op a b K):∃d,z3q op a b=some d/\K d:=by
 have hb:(a==b)=decide (a=b):=by by_cases e:a=b<;>simp [e]
 cases op<;>simp only [z96] at h<;>simp only [z3q]
 all_goals first
  | exact⟨_,if_pos h.need,h.go⟩
  | exact⟨_,rfl,by rw [hb];exact yf6 h⟩
  | exact⟨_,rfl,by rw [hb];exact ydb h⟩
  | exact⟨_,rfl,h⟩
def ypi (op:BinOp) (x y:V) (K:D->Prop):Prop:=
 match x,y with
 | .d (.int k a),.d (.int l b)=>
  (match op with
  | .shl=>zeb (0<=b) (Wr k (a*2^(min b.toNat k.bits)) fun n=>K (.int k n))
  | .shr=>zeb (0<=b) (K (.int k (a.fdiv (2^(min b.toNat k.bits)))))
  | _=>(match decide (k=l) with
   | true=>z95 op k a b K
   | false=>False))
 | .d (.str a),.d (.str b)=>z96 op a b K
 | _,_=>False
theorem yl1 (op:BinOp) (x y:V) (K:D->Prop) (h:ypi op x y K):∃d,ynl op x y=some d/\K d:=by
 unfold ypi at h
 split at h
 ·simp only [ynl]
  split at h
  ·exact⟨_,if_pos h.need,h.go.go⟩
  ·exact⟨_,if_pos h.need,h.go⟩
  ·rename_i n1 n2
   split at h
   ·rename_i e
    obtain⟨d,h1,h2⟩:=yee _ _ _ _ _ h
    refine⟨d,?_,h2⟩
    cases op<;>first |exact(if_pos (of_decide_eq_true e)).trans h1|exact absurd rfl n1|exact absurd rfl n2
   ·exact h.elim
 ·exact yef _ _ _ _ h
 ·exact h.elim
def zwp (mx:Bool) (k:IntKind):Int->List V->(D->Prop)->Prop
 | a,[],K=>K (.int k a)
 | a,.d (.int _ b)::r,K=>
  (match mx with
  | true=>zwp mx k (if b>a then b else a) r K
  | false=>zwp mx k (if b<a then b else a) r K)
 | _,_::_,_=>False
def yap (mx:Bool) (l:List V) (K:D->Prop):Prop:=
 match l with
 | .d (.int k a)::r=>zwp mx k a r K
 | _=>False
theorem zu5 (mx:Bool) (k:IntKind):∀(l:List V) (a:Int) (K:D->Prop),zwp mx k a l K->∃d,zq3.go mx k a l=some d/\K d
 | [],a,K,h=>⟨.int k a,rfl,h⟩
 | v::r,a,K,h=>by
  unfold zwp at h
  split at h
  ·rename_i e;cases e
  ·rename_i _ _ _ a' b r' K' e
   obtain⟨rfl,rfl⟩:=(List.cons.injEq ..).mp e
   simp only [zq3.go]
   cases mx with
   | true=>exact zu5 true k r _ _ h
   | false=>exact zu5 false k r _ _ h
  ·exact h.elim
theorem yer (mx:Bool) (l:List V) (K:D->Prop) (h:yap mx l K):∃d,zq3 mx l=some d/\K d:=by
 unfold yap at h
 split at h
 ·exact zu5 mx _ _ _ K h
 ·exact h.elim
end Go.Evl
namespace Go.Evl
def ymq (nx:Nat):List Id->Bool
 | []=>true
 | i::r=>match Nat.blt i.lv nx with
  | true=>ymq nx r
  | false=>false
theorem z1s (nx:Nat):∀(l:List Id),ymq nx l=zkq nx l
 | []=>rfl
 | i::r=>by
  simp only [ymq]
  cases h:Nat.blt i.lv nx with
  | true=>
   have:i.lv<nx:=Nat.le_of_ble_eq_true h
   simp only [z1s nx r]
   simp [zkq,this]
  | false=>
   have:¬i.lv<nx:=fun hh=>by
    have:=Nat.ble_eq_true_of_le (show i.lv+1<=nx from hh)
    simp only [Nat.blt] at h
    rw [this] at h;cases h
   simp [zkq,this]
def z8g:Mem->(List Id->Prop)->Prop
 | [],K=>K []
 | (i,_)::r,K=>z8g r fun l=>K (i::l)
theorem zs9:∀(m:Mem) (K:List Id->Prop),z8g m K=K (zmy m)
 | [],_=>rfl
 | (i,o)::r,K=>by simp only [z8g,zs9 r];rfl
def z3p (nx:Nat):Mem->(Mem->Prop)->Prop
 | [],K=>K []
 | (i,o)::r,K=>match Nat.blt i.lv nx with
  | true=>z3p nx r fun r'=>K ((i,o)::r')
  | false=>z3p nx r K
theorem zvu (nx:Nat):∀(m:Mem) (K:Mem->Prop),z3p nx m K=K (ze5 nx m)
 | [],_=>rfl
 | (i,o)::r,K=>by
  simp only [z3p]
  cases h:Nat.blt i.lv nx with
  | true=>
   have:i.lv<nx:=Nat.le_of_ble_eq_true h
   simp only [zvu nx r]
   simp [ze5,this]
  | false=>
   have:¬i.lv<nx:=fun hh=>by
    have:=Nat.ble_eq_true_of_le (show i.lv+1<=nx from hh)
    simp only [Nat.blt] at h
    rw [this] at h;cases h
   simp only [zvu nx r]
   simp [ze5,this]
def z5e (cx:Cx) (slot:Nat) (imm:Bool) (v:V) (m':Mem) (K:V->Mem->Prop):Prop:=z3p cx.nx m' fun old=>
 match ymq cx.nx (idsAll old) with
 | true=>(match imm with
  | true=>(match (ids v).all fun i=>Nat.ble cx.nx i.lv with
   | true=>yky m' v fun r=>K r old
   | false=>False)
  | false=>z0d (settle cx slot cx.nx old m' v) fun p=>K p.1 p.2)
 | false=>False
def callW (E:Oracle) (cx:Cx) (slot:Nat) (shared imm:Bool) (f:V) (args:List V) (m:Mem) (K:V->Mem->Prop):Prop:=
 match shared with
 | false=>(match f with
  | .fn f first caps=>zwj false m (first ++args++caps) fun ds=>ynk ds fun vs=>
   (match imm with
   | true=>zah E f vs fun v=>K v m
   | false=>zf2 E f vs cx slot m K)
  | _=>False)
 | true=>z8g m fun ks=>(match ymq cx.nx ks with
  | true=>(match f with
   | .fn f first caps=>In E cx.nx f (first ++args++caps) m fun v m'=>z5e cx slot imm v m' K
   | .yld o=>Rnd E cx.nx o args m fun v m'=>z5e cx slot imm v m' K
   | _=>False)
  | false=>False)
section
variable {E : Oracle}
theorem yb7 {cx:Cx} {slot:Nat} {imm:Bool} {v:V} {m':Mem} {K:V->Mem->Prop} (h:z5e cx slot imm v m' K):
  ∃p,(if zkq cx.nx (idsAll (ze5 cx.nx m')) then zpr cx slot cx.nx imm (ze5 cx.nx m') m' v else none)=some p/\K p.1 p.2:=by
 simp only [z5e,zvu,z1s] at h
 split at h
 ·rename_i hl
  rw [if_pos hl]
  split at h
  ·split at h
   ·rename_i ha
    obtain⟨r,h1,h2⟩:=yd5 _ _ _ h
    refine⟨(r,ze5 cx.nx m'),?_,h2⟩
    have ha':((ids v).all fun i=>decide (cx.nx<=i.lv))=true:=by
     rw [List.all_eq_true] at ha ⊢
     intro i hi
     simpa using Nat.le_of_ble_eq_true (ha i hi)
    simp only [zpr,if_true,ha',h1]
    rfl
   ·exact h.elim
  ·obtain⟨p,h1,h2⟩:=h.got
   exact⟨p,by simp only [zpr];exact h1,h2⟩
 ·exact h.elim
theorem callW_ok {cx:Cx} {slot:Nat} {shared imm:Bool} {f:V} {args:List V} {m:Mem} {K:V->Mem->Prop} (h:callW E cx slot shared imm f args m K):
  ∃p,zko E cx slot shared imm f args m=some p/\K p.1 p.2:=by
 unfold callW at h
 split at h
 ·split at h
  ·rename_i f first caps
   obtain⟨ds,h1,h2⟩:=zqy _ _ _ _ h
   rw [z5d] at h2
   simp only [zko,h1]
   split at h2
   ·obtain⟨r,⟨v,m',h3,h4⟩,h5⟩:=h2.got
    refine⟨(r,m),?_,h5⟩
    have hall:((ids v).all fun i=>decide (0<=i.lv))=true:=by simp
    simp only [h3,zpr,hall,h4]
    rfl
   ·obtain⟨v,m',p,h3,h4,h5⟩:=h2.got
    refine⟨p,?_,h5⟩
    simp only [h3,zpr,h4]
    rfl
  ·exact h.elim
 ·simp only [zs9,z1s] at h
  split at h
  ·rename_i hl
   simp only [zko,if_true,hl]
   split at h
   ·obtain⟨v,m',h1,h2⟩:=h.got
    simp only [zig,h1]
    exact yb7 h2
   ·obtain⟨v,m',h1,h2⟩:=h.got
    simp only [zig,h1]
    exact yb7 h2
   ·exact h.elim
  ·exact h.elim
structure z90 (key:D) (es:List (D×V)) (K:Option V->Prop):Prop where
 got:∃r,zkb key es=some r/\K r
structure ypf (key:D) (x:V) (es:List (D×V)) (K:List (D×V)->Prop):Prop where
 got:∃r,setE key x es=some r/\K r
structure z0c (s:List UInt8) (pos:Nat) (some_:Int->Nat->Prop) (none_:Prop):Prop where
 yes:pos<s.length->some_ (Utf8.decode ⟨s.toArray⟩ pos).1 (Utf8.decode ⟨s.toArray⟩ pos).2
 no:¬pos<s.length->none_
def yan (kk:KK) (zero:D) (ok:Bool) (m:Mem) (x key:V) (K:V->Prop):Prop:=
 match key with
 | .d key=>
  (match ziy kk key with
  | true=>(match x with
   | .mp o=>zl4 m o fun ob=>
    match ob with
    | some (.map es)=>z90 key es fun r=>K (ylh zero ok r)
    | _=>False
   | .d .nilm=>K (ylh zero ok none)
   | _=>False)
  | false=>False)
 | _=>False
theorem yeq {kk:KK} {zero:D} {ok:Bool} {m:Mem} {x key:V} {K:V->Prop} (h:yan kk zero ok m x key K):∃v,zpk kk zero ok m x key=some v/\K v:=by
 unfold yan at h
 split at h
 ·split at h
  ·rename_i hk
   simp only [zpk,if_pos hk]
   split at h
   ·rw [zc4] at h
    split at h
    ·rename_i hl
     obtain⟨r,h1,h2⟩:=h.got
     exact⟨_,by simp only [hl,h1];rfl,h2⟩
    ·exact h.elim
   ·exact⟨_,rfl,h⟩
   ·exact h.elim
  ·exact h.elim
 ·exact h.elim
def ypw (m:Mem) (x:V) (K:Nat->Bool->Prop):Prop:=
 match x with
 | .d .nilp=>K 0 true
 | .d .nilf=>K 4 true
 | .d .nili=>K 1 true
 | .d (.ifc true)=>K 1 false
 | .d .nilm=>K 3 true
 | .d (.fn _)=>K 4 false
 | .d (.list n _)=>zeb (n≠0) (K 2 false)
 | .fn .. =>K 4 false
 | .lptr .. =>K 0 false
 | .ptr o _ top=>zl4 m o fun ob=>
  match ob with
  | some (.cells ..)=>K 0 false
  | some (.row _ _ _ n _)=>zeb (n=top) (K 0 false)
  | _=>False
 | .ref o off len top=>zl4 m o fun ob=>
  match ob with
  | some (.row _ _ _ n _)=>zeb (n=top/\off+len<=n/\len≠0) (K 2 false)
  | _=>False
 | _=>False
theorem ymx {m:Mem} {x:V} {K:Nat->Bool->Prop} (h:ypw m x K):∃k b,yg6 m x=some (k,b)/\K k b:=by
 unfold ypw at h
 split at h
 ·exact⟨_,_,rfl,h⟩
 ·exact⟨_,_,rfl,h⟩
 ·exact⟨_,_,rfl,h⟩
 ·exact⟨_,_,rfl,h⟩
 ·exact⟨_,_,rfl,h⟩
 ·exact⟨_,_,rfl,h⟩
 ·rename_i n cs
  cases n with
  | zero=>exact absurd rfl h.need
  | succ n=>exact⟨_,_,rfl,h.go⟩
 ·exact⟨_,_,rfl,h⟩
 ·exact⟨_,_,rfl,h⟩
 ·rw [zc4] at h
  split at h
  ·rename_i hl;exact⟨_,_,by simp only [yg6,z67,hl];rfl,h⟩
  ·rename_i hl;exact⟨_,_,by simp [yg6,z67,hl,h.need],h.go⟩
  ·exact h.elim
 ·rw [zc4] at h
  split at h
  ·rename_i hl;exact⟨_,_,by simp only [yg6,hl];exact if_pos h.need,h.go⟩
  ·exact h.elim
 ·exact h.elim
def z6b (kk:KK) (m:Mem) (x key v:V) (K:V->Mem->Prop):Prop:=
 match x,key with
 | .mp o,.d key=>zl4 m o fun ob=>
  (match ob with
  | some (.map es)=>(match ziy kk key&&(cellsOf v).isSome with
   | true=>ypf key v es fun es'=>zzm m o (.map es') fun m'=>K .skip m'
   | false=>False)
  | _=>False)
 | _,_=>False
theorem z4e {kk:KK} {m:Mem} {x key v:V} {K:V->Mem->Prop} (h:z6b kk m x key v K):∃m',ziz kk m x key v=some m'/\K .skip m':=by
 unfold z6b at h
 split at h
 ·rw [zc4] at h
  split at h
  ·rename_i hl
   split at h
   ·rename_i hb
    obtain⟨r,h1,h2⟩:=h.got
    rw [zex] at h2
    exact⟨_,by simp only [ziz,hl,if_pos hb,h1];rfl,h2⟩
   ·exact h.elim
  ·exact h.elim
 ·exact h.elim
structure zmb (E:Oracle) (f:V) (args:List V) (m:Mem) (K:V->Prop):Prop where
 got:∃v,zv9 E f args m=some v/\K v
structure yiu (E:Oracle) (imm:Bool) (f:V) (args:List V) (m:Mem) (K:V->Mem->Prop):Prop where
 got:∃v m',zwa E imm f args m=some (v,m')/\K v m'
def zky (E:Oracle) (cx:Cx) (slot:Nat) (e:Env) (m:Mem) (op:COp) (K:V->Mem->Prop):Prop:=
 match op with
 | .mv x=>opK e x fun v=>K v m
 | .ownNil r=>yg5 cx slot m fun i=>zzm m i (.row r.wr r.t r.sz 0 []) fun m'=>K (.ref i 0 0 0) m'
 | .pick c a b=>opK e c fun c=>
  match c with
  | .d (.bool t)=>Br t (opK e a fun v=>K v m) (opK e b fun v=>K v m)
  | _=>False
 | .alloc t cs=>yak cx slot cs m fun vs m1=>yg5 cx slot m1 fun i=>zzm m1 i (.cells t vs) fun m2=>K (.ptr i 0 0) m2
 | .box t x=>opK e x fun v=>z7l v fun cs=>yg5 cx slot m fun i=>zzm m i (.cells t cs) fun m2=>K (.ptr i 0 0) m2
 | .build zero parts=>yak cx slot zero m fun vs m1=>ydg e parts fun ps=>yme vs ps fun cs=>yo4 cs fun v=>K v m1
 | .mkList sz n parts=>z9x e parts fun vs=>z8i sz m vs fun ds=>K (.d (.list n ds)) m
 | .mkListD sz n parts=>z9x e parts fun vs=>Chk (ygs vs) (z8i sz [] vs fun ds=>K (.d (.list n ds)) m)
 | .mkRow r n parts=>z9x e parts fun vs=>z8i r.sz m vs fun ds=>yg5 cx slot m fun i=>zzm m i (.row r.wr r.t r.sz n ds) fun m2=>K (.ref i 0 n n) m2
 | .load n a=>opK e a fun a=>yjw n m a fun v=>K v m
 | .store n a x=>opK e a fun a=>opK e x fun x=>yd1 n m a x fun m'=>K .skip m'
 | .nilCheck x=>opK e x fun v=>
  match v with
  | .fn f a b=>K (.fn f a b) m
  | .d (.fn f)=>K (.fn f [] []) m
  | .lptr cs o=>K (.lptr cs o) m
  | .ptr o off top=>zl4 m o fun ob=>
   match ob with
   | some (.cells ..)=>K (.ptr o off top) m
   | some (.row _ _ _ n _)=>zeb (n=top) (K (.ptr o off top) m)
   | _=>False
  | _=>False
 | .bin op x y=>opK e x fun x=>opK e y fun y=>ypi op x y fun d=>K (.d d) m
 | .eqv ks neg x y=>opK e x fun x=>opK e y fun y=>ypm ks x y fun b=>
  match neg with
  | true=>K (.d (.bool (!b))) m
  | false=>K (.d (.bool b)) m
 | .un op x=>opK e x fun x=>
  match op,x with
  | .not,.d (.bool b)=>K (.d (.bool (!b))) m
  | .neg,.d (.int k n)=>Wr k (0-n) fun n=>K (.d (.int k n)) m
  | _,_=>False
 | .conv k x=>opK e x fun x=>
  match x with
  | .d (.int _ n)=>Wr k n fun n=>K (.d (.int k n)) m
  | _=>False
 | .mkFunc f first caps=>z9x e first fun a=>z9x e caps fun b=>K (.fn f a b) m
 | .sliceS x lo hi=>opK e x fun x=>opK? e lo fun lo=>opK? e hi fun hi=>
  match x with
  | .d (.str s)=>zxf s.length lo hi fun l h=>K (.d (.str (win s l (h-l)))) m
  | _=>False
 | .slice sz x lo hi mx=>opK e x fun x=>opK? e lo fun lo=>opK? e hi fun hi=>opK? e mx fun mx=>yia sz m x lo hi mx fun v=>K v m
 | .fieldAddr off x=>opK e x fun x=>yjy off m x fun v=>K v m
 | .field off n x=>opK e x fun x=>yj3 n x off fun v=>K v m
 | .idxAddr sz x i=>opK e x fun x=>opK e i fun i=>z54 sz m x i fun v=>K v m
 | .idxAddrA len sz x i=>opK e x fun x=>opK e i fun i=>
  match i with
  | .d (.int _ i)=>zeb (0<=i/\i<len) (yjy (i.toNat*sz) m x fun v=>K v m)
  | _=>False
 | .idxS x i=>opK e x fun x=>opK e i fun i=>
  match x,i with
  | .d (.str s),.d (.int _ i)=>zeb (0<=i) (yfq s i.toNat fun b=>K (.d (.int .u8 b.toNat)) m)
  | _,_=>False
 | .idxA len sz n x i=>opK e x fun x=>opK e i fun i=>
  match i with
  | .d (.int _ i)=>zeb (0<=i/\i<len) (yj3 n x (i.toNat*sz) fun v=>K v m)
  | _=>False
 | .mkMap=>yg5 cx slot m fun i=>zzm m i (.map []) fun m'=>K (.mp i) m'
 | .lookup kk zero ok x key=>opK e x fun x=>opK e key fun key=>yan kk zero ok m x key fun v=>K v m
 | .mapSet kk x key v=>opK e x fun x=>opK e key fun key=>opK e v fun v=>z6b kk m x key v K
 | .mapSetR kk x key v rs=>opK e x fun x=>opK e key fun key=>opK e v fun v=>yel e rs fun vs=>Chk (yb5 x vs) (z6b kk m x key v K)
 | .callD f args=>opK e f fun f=>z9x e args fun vs=>
  match zr6 f with
  | .fn g [] []=>Chk (ygs vs) (callW E cx slot false true (.fn g [] []) vs m K)
  | _=>False
 | .callQ f args=>opK e f fun f=>z9x e args fun vs=>zmb E (zr6 f) vs m fun v=>K v m
 | .callU imm f args=>opK e f fun f=>z9x e args fun vs=>yiu E imm (zr6 f) vs m K
 | .callK imm f args=>opK e f fun f=>z9x e args fun vs=>callW E cx slot true imm (zr6 f) vs m fun v m'=>Chk (leM m m' m) (K v m)
 | .callN f args=>opK e f fun f=>z9x e args fun vs=>
  match zr6 f with
  | .fn g [] []=>Chk (ygs vs) (callW E cx slot false false (.fn g [] []) vs m K)
  | _=>False
 | .nilEq kd neg x=>opK e x fun x=>ypw m x fun k b=>Chk (Nat.beq k kd) (K (.d (.bool (if neg then !b else b))) m)
 | .loadD n a=>opK e a fun a=>
  match a with
  | .lptr cs off=>z8v n cs off fun v=>K v m
  | _=>False
 | .idxAddrD sz x i=>opK e x fun x=>opK e i fun i=>
  match x with
  | .d (.list n cs)=>(match i with
   | .d (.int _ i)=>zeb (0<=i/\i<n) (K (.lptr cs (i.toNat*sz)) m)
   | _=>False)
  | _=>False
 | .appendIn r s x=>opK e s fun s=>opK e x fun x=>z7v m x fun k ds=>
  match s with
  | .ref o off len top=>zl4 m o fun ob=>
   match ob with
   | some (.row true t sz n xs)=>zeb (n=top/\off+len+k<=n/\off+len<n/\t=r.t/\sz=r.sz/\ds.length=k*sz)
    (zzm m o (.row true t sz n (patch xs ((off+len)*sz) ds)) fun m'=>K (.ref o off (len+k) top) m')
   | _=>False
  | _=>False
 | .rangeS x=>opK e x fun x=>
  match x with
  | .d (.str s)=>yg5 cx slot m fun i=>zzm m i (.iter s 0) fun m'=>K (.it i) m'
  | _=>False
 | .nextS x=>opK e x fun x=>
  match x with
  | .it o=>zl4 m o fun ob=>
   match ob with
   | some (.iter s pos)=>z0c s pos (fun c w=>zzm m o (.iter s (pos+w)) fun m'=>K (.tup [.d (.bool true),.d (.int .i64 pos),.d (.int .i32 c)]) m') (K (.tup [.d (.bool false)]) m)
   | _=>False
  | _=>False
 | .extract x i=>opK e x fun x=>
  match x with
  | .tup vs=>yd9 vs i fun v=>K v m
  | _=>False
 | .call shared imm f args=>opK e f fun f=>z9x e args fun vs=>callW E cx slot shared imm (zr6 f) vs m K
 | .storeR n a x rs=>opK e a fun a=>opK e x fun x=>yel e rs fun vs=>Chk (yb6 a vs) (yd1 n m a x fun m'=>K .skip m')
 | .bad=>False
 | .appendZ r zero s n=>opK e s fun s=>opK e n fun n=>
  match s,n with
  | .d .nil,.d (.int .i64 n)=>zeb (0<n/\zero.length=r.sz/\n.toNat*r.by_<=140737488355328/\n.toNat<=140737488355328)
   (yg5 cx slot m fun i=>zzm m i (.row r.wr r.t r.sz n.toNat (List.replicate n.toNat zero).flatten) fun m'=>K (.ref i 0 n.toNat n.toNat) m')
  | _,_=>False
 | .callB imm f args b=>∃p,zpi (fun m=>zko E cx slot true imm (zr6 (f.ev e)) (evs e args) m) m (get e b)=some p/\K p.1 p.2
 | .callR imm f args rs=>opK e f fun f=>z9x e args fun vs=>yel e rs fun ws=>callW E cx slot true imm (zr6 f) vs m fun v m'=>Chk (yam m m' ws) (K v m')
 | .len k x=>opK e x fun x=>ypv m k x fun n=>K (.d (.int .i64 (n:Int))) m
 | .append r s x=>opK e s fun s=>opK e x fun x=>z7v m x fun k ds=>zvk cx slot r m k ds s K
 | .appendF r s x=>opK e s fun s=>opK e x fun x=>z7v m x fun k ds=>zvk cx slot r m k ds s fun v m'=>zh4 false m' v fun d=>K (.d d) m'
 | .strB x=>opK e x fun x=>
  match x with
  | .d (.list 1 [.int .u8 n])=>K (.d (.str [UInt8.ofNat n.toNat])) m
  | _=>False
 | .appendS r s x=>opK e s fun s=>opK e x fun x=>
  match x,s with
  | .d (.str b),.ref o off len top=>zvk cx slot r m b.length (yb8 b) (.ref o off len top) K
  | _,_=>False
 | .minmax mx args=>z9x e args fun vs=>yap mx vs fun d=>K (.d d) m
 | .clear zero x=>opK e x fun x=>z0d (yca zero m x) fun m'=>K .skip m'
theorem ybx {cx:Cx} {slot:Nat} {e:Env} {m:Mem} {op:COp} {K:V->Mem->Prop} (h:zky E cx slot e m op K):∃p,zcn E cx slot e m op=some p/\K p.1 p.2:=by
 cases op with
 | mv x=>simp only [zky,zcb] at h;exact⟨(_,_),rfl,h⟩
 | ownNil r=>simp only [zky,zpp,zex] at h;exact⟨(_,_),rfl,h⟩
 | pick c a b=>
  simp only [zky,zcb] at h
  simp only [zcn]
  split at h
  ·rename_i t ht
   rw [ht]
   refine⟨(if t then a.ev e else b.ev e,m),rfl,?_⟩
   cases t with
   | true=>exact h.yes rfl
   | false=>exact h.no rfl
  ·exact h.elim
 | alloc t cs=>simp only [zky,zzv,zpp,zex] at h;exact⟨(_,_),rfl,h⟩
 | box t x=>
  simp only [zky,zcb] at h
  obtain⟨cs,h1,h2⟩:=z00 _ _ h
  simp only [zpp,zex] at h2
  exact⟨(_,_),by simp only [zcn,h1],h2⟩
 | build zero parts=>
  simp only [zky,zzv,z8u] at h
  obtain⟨cs,h1,h2⟩:=yci _ _ _ h
  rw [yfx] at h2
  exact⟨(_,_),by simp only [zcn,h1];rfl,h2⟩
 | mkList sz n parts=>
  simp only [zky,zk2] at h
  obtain⟨cs,h1,h2⟩:=zwo _ _ _ _ h
  exact⟨(_,_),by simp only [zcn,h1];rfl,h2⟩
 | mkListD sz n parts=>
  simp only [zky,zk2] at h
  obtain⟨hc,h⟩:=h
  obtain⟨cs,h1,h2⟩:=zwo _ _ _ _ h
  exact⟨(_,_),by simp only [zcn,hc,if_true,h1];rfl,h2⟩
 | mkRow r n parts=>
  simp only [zky,zk2] at h
  obtain⟨cs,h1,h2⟩:=zwo _ _ _ _ h
  simp only [zpp,zex] at h2
  exact⟨(_,_),by simp only [zcn,h1];rfl,h2⟩
 | load n a=>
  simp only [zky,zcb] at h
  obtain⟨v,h1,h2⟩:=yc2 _ _ _ _ h
  exact⟨(_,_),by simp only [zcn,h1];rfl,h2⟩
 | store n a x=>
  simp only [zky,zcb] at h
  obtain⟨v,h1,h2⟩:=z9r _ _ _ _ _ h
  exact⟨(_,_),by simp only [zcn,h1];rfl,h2⟩
 | nilCheck x=>
  simp only [zky,zcb] at h
  simp only [zcn]
  split at h
  ·rename_i hx;rw [hx];exact⟨(_,_),rfl,h⟩
  ·rename_i hx;rw [hx];exact⟨(_,_),rfl,h⟩
  ·rename_i hx;rw [hx];exact⟨(_,_),rfl,h⟩
  ·rename_i hx;rw [hx]
   rw [zc4] at h
   split at h
   ·rename_i hl;exact⟨(_,_),by simp only [z67,hl];rfl,h⟩
   ·rename_i hl;exact⟨(_,_),by simp [z67,hl,h.need],h.go⟩
   ·exact h.elim
  ·exact h.elim
 | bin op x y=>
  simp only [zky,zcb] at h
  obtain⟨v,h1,h2⟩:=yl1 _ _ _ _ h
  exact⟨(_,_),by simp only [zcn,h1];rfl,h2⟩
 | eqv ks neg x y=>
  simp only [zky,zcb] at h
  obtain⟨v,h1,h2⟩:=yma _ _ _ _ h
  cases neg<;>exact⟨(_,_),by simp only [zcn,h1];rfl,h2⟩
 | un op x=>
  simp only [zky,zcb] at h
  simp only [zcn]
  split at h
  ·rename_i hx;rw [hx];exact⟨(_,_),rfl,h⟩
  ·rename_i hx;rw [hx];exact⟨(_,_),rfl,h.go⟩
  ·exact h.elim
 | conv k x=>
  simp only [zky,zcb] at h
  simp only [zcn]
  split at h
  ·rename_i hx;rw [hx];exact⟨(_,_),rfl,h.go⟩
  ·exact h.elim
 | mkFunc f first caps=>simp only [zky,zk2] at h;exact⟨(_,_),rfl,h⟩
 | sliceS x lo hi=>
  simp only [zky,zcb,opK?_eq] at h
  simp only [zcn]
  split at h
  ·rename_i hx;rw [hx]
   obtain⟨p,h1,h2⟩:=zs4 _ _ _ _ h
   obtain⟨l,hh⟩:=p
   simp only [h1]
   exact⟨(_,_),rfl,h2⟩
  ·exact h.elim
 | slice sz x lo hi mx=>
  simp only [zky,zcb,opK?_eq] at h
  obtain⟨v,h1,h2⟩:=yib _ _ _ _ _ _ _ h
  exact⟨(_,_),by simp only [zcn,h1];rfl,h2⟩
 | fieldAddr off x=>
  simp only [zky,zcb] at h
  obtain⟨v,h1,h2⟩:=yc8 _ _ _ _ h
  exact⟨(_,_),by simp only [zcn,h1];rfl,h2⟩
 | field off n x=>
  simp only [zky,zcb] at h
  obtain⟨v,h1,h2⟩:=ydf _ _ _ _ h
  exact⟨(_,_),by simp only [zcn,h1];rfl,h2⟩
 | idxAddr sz x i=>
  simp only [zky,zcb] at h
  obtain⟨v,h1,h2⟩:=yaj _ _ _ _ _ h
  exact⟨(_,_),by simp only [zcn,h1];rfl,h2⟩
 | idxAddrA len sz x i=>
  simp only [zky,zcb] at h
  simp only [zcn]
  split at h
  ·rename_i hx;rw [hx]
   obtain⟨h0,h⟩:=h
   obtain⟨v,h1,h2⟩:=yc8 _ _ _ _ h
   simp only [asI,if_pos h0,h1]
   exact⟨(_,_),rfl,h2⟩
  ·exact h.elim
 | idxS x i=>
  simp only [zky,zcb] at h
  simp only [zcn]
  split at h
  ·rename_i hx hi;rw [hx,hi]
   obtain⟨h0,h⟩:=h
   obtain⟨b,h1,h2⟩:=h.got
   simp only [asI,if_pos h0,h1]
   exact⟨(_,_),rfl,h2⟩
  ·exact h.elim
 | idxA len sz n x i=>
  simp only [zky,zcb] at h
  simp only [zcn]
  split at h
  ·rename_i hx;rw [hx]
   obtain⟨h0,h⟩:=h
   obtain⟨v,h1,h2⟩:=ydf _ _ _ _ h
   simp only [asI,if_pos h0,h1]
   exact⟨(_,_),rfl,h2⟩
  ·exact h.elim
 | mkMap=>simp only [zky,zpp,zex] at h;exact⟨(_,_),rfl,h⟩
 | lookup kk zero ok x key=>
  simp only [zky,zcb] at h
  obtain⟨v,h1,h2⟩:=yeq h
  exact⟨(_,_),by simp only [zcn,h1];rfl,h2⟩
 | mapSet kk x key v=>
  simp only [zky,zcb] at h
  obtain⟨m',h1,h2⟩:=z4e h
  exact⟨(_,_),by simp only [zcn,h1];rfl,h2⟩
 | mapSetR kk x key v rs=>
  simp only [zky,zcb,zzu] at h
  obtain⟨hc,h⟩:=h
  obtain⟨m',h1,h2⟩:=z4e h
  exact⟨(_,_),by simp only [zcn,if_pos hc,h1];rfl,h2⟩
 | callK imm f args=>
  simp only [zky,zcb,zk2] at h
  obtain⟨⟨v,m'⟩,h1,hc,h2⟩:=callW_ok h
  exact⟨(v,m),by simp only [zcn,h1,if_pos hc],h2⟩
 | callQ f args=>
  simp only [zky,zcb,zk2] at h
  obtain⟨v,h1,h2⟩:=h.got
  exact⟨(v,m),by simp only [zcn,h1];rfl,h2⟩
 | callU b f args=>
  simp only [zky,zcb,zk2] at h
  obtain⟨v,m',h1,h2⟩:=h.got
  exact⟨(v,m'),by simp only [zcn,h1],h2⟩
 | callN f args=>
  simp only [zky,zcb,zk2] at h
  simp only [zcn]
  split at h
  ·rename_i hf;rw [hf]
   obtain⟨hc,h⟩:=h
   obtain⟨p,h1,h2⟩:=callW_ok h
   exact⟨p,by simp only [hc,if_true];exact h1,h2⟩
  ·exact h.elim
 | callD f args=>
  simp only [zky,zcb,zk2] at h
  simp only [zcn]
  split at h
  ·rename_i hf;rw [hf]
   obtain⟨hc,h⟩:=h
   obtain⟨p,h1,h2⟩:=callW_ok h
   exact⟨p,by simp only [hc,if_true];exact h1,h2⟩
  ·exact h.elim
 | nilEq kd neg x=>
  simp only [zky,zcb] at h
  obtain⟨k,b,h1,hc,h2⟩:=ymx h
  exact⟨(_,_),by simp only [zcn,h1];exact if_pos (Nat.eq_of_beq_eq_true hc),h2⟩
 | loadD n a=>
  simp only [zky,zcb] at h
  simp only [zcn]
  split at h
  ·rename_i ha;rw [ha]
   obtain⟨v,h1,h2⟩:=zwx _ _ _ _ h
   exact⟨(_,_),by simp only [h1];rfl,h2⟩
  ·exact h.elim
 | idxAddrD sz x i=>
  simp only [zky,zcb] at h
  simp only [zcn]
  split at h
  ·rename_i hx;rw [hx]
   split at h
   ·rename_i hi;rw [hi]
    exact⟨(_,_),if_pos h.need,h.go⟩
   ·exact h.elim
  ·exact h.elim
 | appendIn r s x=>
  simp only [zky,zcb] at h
  obtain⟨⟨k,ds⟩,h1,h2⟩:=z07 _ _ _ h
  simp only [zcn,zvj,h1]
  split at h2
  ·rename_i hs;rw [hs]
   rw [zc4] at h2
   split at h2
   ·rename_i hl
    obtain⟨hc,h3⟩:=h2
    rw [zex] at h3
    exact⟨(_,_),by simp only [hl];exact if_pos hc,h3⟩
   ·exact h2.elim
  ·exact h2.elim
 | rangeS x=>
  simp only [zky,zcb] at h
  simp only [zcn]
  split at h
  ·rename_i hx;rw [hx]
   simp only [zpp,zex] at h
   exact⟨(_,_),rfl,h⟩
  ·exact h.elim
 | nextS x=>
  simp only [zky,zcb] at h
  simp only [zcn]
  split at h
  ·rename_i hx;rw [hx]
   rw [zc4] at h
   split at h
   ·rename_i s pos hl
    simp only [zex] at h
    simp only [yjz,hl]
    by_cases hp:pos<s.length
    ·exact⟨(_,_),if_pos hp,h.yes hp⟩
    ·exact⟨(_,_),if_neg hp,h.no hp⟩
   ·exact h.elim
  ·exact h.elim
 | extract x i=>
  simp only [zky,zcb] at h
  simp only [zcn]
  split at h
  ·rename_i hx;rw [hx]
   obtain⟨v,h1,h2⟩:=h.got
   exact⟨(_,_),by simp only [h1];rfl,h2⟩
  ·exact h.elim
 | call shared imm f args=>
  simp only [zky,zcb,zk2] at h
  exact callW_ok h
 | storeR n a x rs=>
  simp only [zky,zcb,zzu] at h
  obtain⟨hc,h⟩:=h
  obtain⟨v,h1,h2⟩:=z9r _ _ _ _ _ h
  exact⟨(_,_),by simp only [zcn,if_pos hc,h1];rfl,h2⟩
 | callB imm f args b=>exact h
 | bad=>exact h.elim
 | appendZ r zero s n=>
  simp only [zky,zcb] at h
  simp only [zcn]
  split at h
  ·rename_i hs hn;rw [hs,hn]
   obtain⟨⟨h1,h2,h3,h4⟩,h5⟩:=h
   rw [zpp,zex] at h5
   exact⟨(_,_),if_pos ⟨h1,h2,by simp [z6s,h3,h4]⟩,h5⟩
  ·exact h.elim
 | callR imm f args rs=>
  simp only [zky,zcb,zk2,zzu] at h
  obtain⟨⟨v,m'⟩,h1,hc,h2⟩:=callW_ok h
  exact⟨(v,m'),by simp only [zcn,h1,if_pos hc],h2⟩
 | len k x=>
  simp only [zky,zcb] at h
  obtain⟨v,h1,h2⟩:=ymo _ _ _ _ h
  exact⟨(_,_),by simp only [zcn,h1];rfl,h2⟩
 | append r s x=>
  simp only [zky,zcb] at h
  obtain⟨⟨k,ds⟩,h1,h2⟩:=z07 _ _ _ h
  simp only [zcn,zuh,h1]
  exact zug _ _ _ _ _ _ _ _ h2
 | appendF r s x=>
  simp only [zky,zcb] at h
  obtain⟨⟨k,ds⟩,h1,h2⟩:=z07 _ _ _ h
  obtain⟨⟨v,m'⟩,h3,h4⟩:=zug _ _ _ _ _ _ _ _ h2
  obtain⟨d,h5,h6⟩:=zs5 _ _ _ _ h4
  exact⟨(_,_),by simp only [zcn,zuh,h1,h3,h5];rfl,h6⟩
 | strB x=>
  simp only [zky,zcb] at h
  simp only [zcn]
  split at h
  ·rename_i hx;rw [hx];exact⟨(_,_),rfl,h⟩
  ·exact h.elim
 | appendS r s x=>
  simp only [zky,zcb] at h
  simp only [zcn]
  split at h
  ·rename_i hx hs;rw [hx,hs]
   simp only [zvl]
   exact zug _ _ _ _ _ _ _ _ h
  ·exact h.elim
 | minmax mx args=>
  simp only [zky,zk2] at h
  obtain⟨v,h1,h2⟩:=yer _ _ _ h
  exact⟨(_,_),by simp only [zcn,h1];rfl,h2⟩
 | clear zero x=>
  simp only [zky,zcb] at h
  obtain⟨v,h1,h2⟩:=h.got
  exact⟨(_,_),by simp only [zcn,h1];rfl,h2⟩
def ynh (E:Oracle) (cx:Cx) (e:Env) (m:Mem) (o:CO) (K:V->Mem->Prop):Prop:=
 match o with
 | ⟨dst,none,op⟩=>zky E cx (dst.getD 0) e m op K
 | ⟨dst,some (t,want),op⟩=>yjk e t fun g=>
  match g with
  | .d (.bool b)=>(match want with
   | true=>Br b (zky E cx (dst.getD 0) e m op K) (K .skip m)
   | false=>Br b (K .skip m) (zky E cx (dst.getD 0) e m op K))
  | .skip=>K .skip m
  | _=>False
theorem yk0 {cx:Cx} {e:Env} {m:Mem} {o:CO} {K:V->Mem->Prop} (h:ynh E cx e m o K):∃p,zd3 E cx e m o=some p/\K p.1 p.2:=by
 obtain⟨dst,guard,op⟩:=o
 cases guard with
 | none=>exact ybx h
 | some g=>
  obtain⟨t,want⟩:=g
  simp only [ynh,zu3] at h
  simp only [zd3]
  split at h
  ·rename_i b hb
   rw [hb]
   cases want<;>cases b
   ·exact ybx (h.no rfl)
   ·exact⟨(_,_),rfl,h.yes rfl⟩
   ·exact⟨(_,_),rfl,h.no rfl⟩
   ·exact ybx (h.yes rfl)
  ·rename_i hb;rw [hb];exact⟨(_,_),rfl,h⟩
  ·exact h.elim
def wpOps (E:Oracle) (cx:Cx):List CO->Env->Mem->(Env->Mem->Prop)->Prop
 | [],e,m,K=>K e m
 | o::r,e,m,K=>ynh E cx e m o fun v m'=>put?K e o.dst v fun e'=>wpOps E cx r e' m' K
theorem wpOps_ok {cx:Cx}:∀(os:List CO) (e:Env) (m:Mem) (K:Env->Mem->Prop),wpOps E cx os e m K->∃p,ziw E cx os e m=some p/\K p.1 p.2
 | [],e,m,K,h=>⟨(e,m),rfl,h⟩
 | o::r,e,m,K,h=>by
  obtain⟨⟨v,m'⟩,h1,h2⟩:=yk0 h
  rw [put?K_eq] at h2
  obtain⟨p,h3,h4⟩:=wpOps_ok r _ _ K h2
  exact⟨p,by simp only [ziw,h1];exact h3,h4⟩
def yqm (K1:Env->Mem->Prop) (K:Ex->Env->Mem->Prop) (x:Ex) (e:Env) (m:Mem):Prop:=
 match x with
 | .normal=>K1 e m
 | .exit i=>K (.exit i) e m
 | .ret=>K .ret e m
def yk6 (id:Nat) (K:Ex->Env->Mem->Prop) (x:Ex) (e:Env) (m:Mem):Prop:=
 match x with
 | .normal=>K .normal e m
 | .exit j=>(match Nat.beq j id with
  | true=>K .normal e m
  | false=>K (.exit j) e m)
 | .ret=>K .ret e m
def ylk (cx:Cx) (i:Id) (e:Env) (K:Ex->Env->Mem->Prop) (m':Mem):Prop:=zl4 m' i fun o=>
 match o with
 | some (.loop _ _ _ _ _ false _ j)=>z3p cx.nx m' fun mb=>
  (match ymq cx.nx (idsAll mb) with
  | true=>zzm mb i .gone fun m2=>
   (match j with
   | none=>K .normal e m2
   | some (.exit id)=>K (.exit id) e m2
   | some .ret=>K .ret e m2)
  | false=>False)
 | _=>False
def wpC (E:Oracle) (cx:Cx):C->Env->Mem->(Ex->Env->Mem->Prop)->Prop
 | .skip,e,m,K=>K .normal e m
 | .label,e,m,K=>K .normal e m
 | .reg _ ops kill,e,m,K=>wpOps E cx ops e m fun e' m'=>zth kill e' fun e''=>K .normal e'' m'
 | .regC ops kill chk,e,m,K=>wpOps E cx ops e m fun e' m'=>Chk (yje e' chk) (zth kill e' fun e''=>K .normal e'' m')
 | .seq a b,e,m,K=>wpC E cx a e m (yqm (fun e' m'=>wpC E cx b e' m' K) K)
 | .cond c a b,e,m,K=>opK e c fun v=>
  match v with
  | .d (.bool t)=>Br t (wpC E cx a e m K) (wpC E cx b e m K)
  | _=>False
 | .block id c,e,m,K=>wpC E cx c e m (yk6 id K)
 | .loop live c,e,m,K=>yev e live fun e'=>z8g m fun ks=>gcK ks e' m fun m'=>zaj E cx live ks c e' m' K
 | .exit id,e,m,K=>K (.exit id) e m
 | .ret,e,m,K=>K .ret e m
 | .bad,_,_,_=>False
 | .scope c,e,m,K=>wpC E cx c e m K
 | .rangeM pre it x out nxt pair live ops kill code,e,m,K=>wpOps E cx pre e m fun e1 m1=>
  ∃x' e' m',zq9 (fun e m=>(ziw E cx ops e m).bind fun q=>evC E cx code (zdi kill q.1) q.2) cx it x out nxt pair live e1 m1=some (x',e',m')/\K x' e' m'
 | .rangeFn slot f ps a b,e,m,K=>yg5 cx slot m fun i=>zzm m i (.loop e ps a b cx.lv false false none) fun m1=>z8g m1 fun ks=>
  match ymq cx.nx ks with
  | true=>opK e f fun fv=>
   (match fv with
   | .fn g first caps=>In E cx.nx g (first ++[.yld i]++caps) m1 fun _ m'=>ylk cx i e K m'
   | _=>False)
  | false=>False
theorem wpC_ok {cx:Cx}:∀(c:C) (e:Env) (m:Mem) (K:Ex->Env->Mem->Prop),wpC E cx c e m K->∃x e' m',evC E cx c e m=some (x,e',m')/\K x e' m'
 | .rangeM pre it x out nxt pair live ops kill code,e,m,K,h=>by
  obtain⟨p,h1,x',e',m',h2,h3⟩:=wpOps_ok pre e m _ h
  exact⟨x',e',m',by simp only [evC,h1,Option.bind_some,h2],h3⟩
 | .skip,e,m,K,h=>⟨_,_,_,rfl,h⟩
 | .label,e,m,K,h=>⟨_,_,_,rfl,h⟩
 | .exit _,e,m,K,h=>⟨_,_,_,rfl,h⟩
 | .ret,e,m,K,h=>⟨_,_,_,rfl,h⟩
 | .bad,_,_,_,h=>h.elim
 | .scope c,e,m,K,h=>by
  obtain⟨x,e',m',h1,h2⟩:=wpC_ok c e m K h
  exact⟨x,e',m',by simp only [evC];exact h1,h2⟩
 | .reg _ ops kill,e,m,K,h=>by
  obtain⟨p,h1,h2⟩:=wpOps_ok ops e m _ h
  rw [zre] at h2
  exact⟨_,_,_,by simp only [evC,h1];rfl,h2⟩
 | .regC ops kill chk,e,m,K,h=>by
  obtain⟨p,h1,hc,h2⟩:=wpOps_ok ops e m _ h
  rw [zre] at h2
  exact⟨_,_,_,by simp only [evC,h1,Option.bind_some];exact if_pos hc,h2⟩
 | .seq a b,e,m,K,h=>by
  obtain⟨x,e',m',h1,h2⟩:=wpC_ok a e m _ h
  cases x with
  | normal=>
   obtain⟨x2,e2,m2,h3,h4⟩:=wpC_ok b e' m' K h2
   exact⟨x2,e2,m2,by simp only [evC,h1];exact h3,h4⟩
  | _=>exact⟨_,_,_,by simp only [evC,h1],h2⟩
 | .cond c a b,e,m,K,h=>by
  simp only [wpC,zcb] at h
  simp only [evC]
  split at h
  ·rename_i t ht
   rw [ht]
   cases t with
   | true=>
    obtain⟨x2,e2,m2,h3,h4⟩:=wpC_ok a e m K (h.yes rfl)
    exact⟨x2,e2,m2,by simpa using h3,h4⟩
   | false=>
    obtain⟨x2,e2,m2,h3,h4⟩:=wpC_ok b e m K (h.no rfl)
    exact⟨x2,e2,m2,by simpa using h3,h4⟩
  ·exact h.elim
 | .block id c,e,m,K,h=>by
  obtain⟨x,e',m',h1,h2⟩:=wpC_ok c e m _ h
  cases x with
  | exit j=>
   simp only [yk6] at h2
   cases hb:Nat.beq j id with
   | true=>
    rw [hb] at h2
    exact⟨.normal,e',m',by simp only [evC,h1];exact if_pos (Nat.eq_of_beq_eq_true hb),h2⟩
   | false=>
    rw [hb] at h2
    have:j≠id:=fun hh=>by rw [hh,Nat.beq_refl] at hb;cases hb
    exact⟨.exit j,e',m',by simp only [evC,h1];exact if_neg this,h2⟩
  | _=>exact⟨_,_,_,by simp only [evC,h1],h2⟩
 | .loop live c,e,m,K,h=>by
  simp only [wpC,zzz,zs9,z8a] at h
  obtain⟨x,e',m',h1,h2⟩:=h.got
  exact⟨x,e',m',by simp only [evC,h1],h2⟩
 | .rangeFn slot f ps a b,e,m,K,h=>by
  simp only [wpC,zpp,zex,zs9,z1s,zcb] at h
  simp only [evC]
  split at h
  ·rename_i hl
   rw [if_pos hl]
   split at h
   ·rename_i hf
    rw [hf]
    obtain⟨v,m',h1,h2⟩:=h.got
    simp only [h1]
    simp only [ylk,zc4,zvu,z1s,zex] at h2
    split at h2
    ·rename_i hlk
     simp only [hlk]
     split at h2
     ·rename_i hl2
      simp only [if_pos hl2]
      split at h2<;>exact⟨_,_,_,rfl,h2⟩
     ·exact h2.elim
    ·exact h2.elim
   ·exact h.elim
  ·exact h.elim
def yom (m:Mem) (e:Env) (r:RV) (K:V->Prop):Prop:=
 match r with
 | .tmp t=>yjk e t K
 | .cell t n=>yjk e t fun a=>yjw n m a K
theorem yh1 {m:Mem} {e:Env} {r:RV} {K:V->Prop} (h:yom m e r K):∃v,yol m e r=some v/\K v:=by
 cases r with
 | tmp t=>simp only [yom,zu3] at h;exact⟨_,rfl,h⟩
 | cell t n=>simp only [yom,zu3] at h;exact yc2 _ _ _ _ h
def ym5 (m:Mem) (e:Env):List RV->(List V->Prop)->Prop
 | [],K=>K []
 | r::q,K=>yom m e r fun v=>ym5 m e q fun vs=>K (v::vs)
theorem yds {m:Mem} {e:Env}:∀(l:List RV) (K:List V->Prop),ym5 m e l K->∃vs,z3c m e l=some vs/\K vs
 | [],K,h=>⟨[],rfl,h⟩
 | r::q,K,h=>by
  obtain⟨v,h1,h2⟩:=yh1 h
  obtain⟨vs,h3,h4⟩:=yds q _ h2
  exact⟨v::vs,by simp only [z3c,h1,h3],h4⟩
def zz3 (m:Mem) (e:Env) (rs:List RV) (K:V->Prop):Prop:=
 match rs with
 | []=>K (.tup [])
 | [r]=>yom m e r K
 | r::r2::rs=>ym5 m e (r::r2::rs) fun vs=>K (.tup vs)
theorem z14 {m:Mem} {e:Env} {rs:List RV} {K:V->Prop} (h:zz3 m e rs K):∃v,results m e rs=some v/\K v:=by
 unfold zz3 at h
 split at h
 ·exact⟨_,rfl,h⟩
 ·exact yh1 h
 ·obtain⟨vs,h1,h2⟩:=yds _ _ h
  exact⟨_,by simp only [results,h1];rfl,h2⟩
def ypl (rs:List RV) (K:V->Mem->Prop) (x:Ex) (e:Env) (m:Mem):Prop:=
 match x with
 | .normal=>zz3 m e rs fun v=>K v m
 | .ret=>zz3 m e rs fun v=>K v m
 | .exit _=>False
def ypa:Nat->List V->(Env->Prop)->Prop
 | _,[],K=>K []
 | i,v::r,K=>ypa (i+1) r fun e=>K ((i,v)::e)
theorem yhl:∀(i:Nat) (l:List V) (K:Env->Prop),ypa i l K=K (params i l)
 | _,[],_=>rfl
 | i,v::r,K=>by simp only [ypa,params,yhl (i+1) r]
variable {Γ : Nat -> Option CF} {X : Extern}
def yi7 (E:Oracle) (lv:Nat) (cf:CF) (args:List V) (m:Mem) (K:V->Mem->Prop):Prop:=ypa 0 args fun e=>wpC E ⟨lv,lv+1⟩ cf.body e m (ypl cf.results K)
theorem In.enter (hE:Lim Γ X E) {lv f:Nat} {args:List V} {m:Mem} {K:V->Mem->Prop} {cf:CF} (hX:X f=none) (hc:Γ f=some cf) (h:yi7 E lv cf args m K):In E lv f args m K:=by
 simp only [yi7,yhl] at h
 obtain⟨x,e',m',h1,h2⟩:=wpC_ok _ _ _ _ h
 refine⟨?_⟩
 rw [hE.fix]
 simp only [step,hX,hc,h1]
 cases x with
 | normal=>
  simp only [ypl] at h2
  obtain⟨v,h3,h4⟩:=z14 h2
  exact⟨v,m',by simp only [h3];rfl,h4⟩
 | ret=>
  simp only [ypl] at h2
  obtain⟨v,h3,h4⟩:=z14 h2
  exact⟨v,m',by simp only [h3];rfl,h4⟩
 | exit i=>exact h2.elim
theorem Fc.enter (hE:Lim Γ X E) {f:Nat} {args:List V} {r:V} {cf:CF} (hX:X f=none) (hc:Γ f=some cf) (h:yi7 E 0 cf args [] fun v m'=>yky m' v fun d=>Ret d r):Fc E f args r:=by
 obtain⟨v,m',h1,h2⟩:=(In.enter hE hX hc h).got
 obtain⟨d,h3,h4⟩:=yd5 _ _ _ h2
 exact⟨v,m',h1,by rw [h3,h4.eq]⟩
theorem Fc.extern (hE:Lim Γ X E) {f:Nat} {args:List V} {r v:V} {m':Mem} {x:List V->Mem->Option (V×Mem)} (hX:X f=some x) (h:x args []=some (v,m')) (ht:ybu m' v=some r):Fc E f args r:=
 ⟨v,m',by rw [hE.fix];simp only [step,hX,h];rfl,ht⟩
theorem In.extern (hE:Lim Γ X E) {lv f:Nat} {args:List V} {m:Mem} {K:V->Mem->Prop} {v:V} {m':Mem} {x:List V->Mem->Option (V×Mem)} (hX:X f=some x) (h:x args m=some (v,m')) (hk:K v m'):In E lv f args m K:=
 ⟨v,m',by rw [hE.fix];simp only [step,hX,h];rfl,hk⟩
theorem zah.of {f:Nat} {args:List V} {r:V} {K:V->Prop} (h:Fc E f args r) (hk:K r):zah E f args K:=⟨r,h,hk⟩
def z7b (E:Oracle) (cx:Cx) (live:List Nat) (keep:List Id) (body:C) (K:Ex->Env->Mem->Prop) (x:Ex) (e:Env) (m:Mem):Prop:=
 match x with
 | .normal=>yev e live fun e2=>gcK keep e2 m fun m2=>zaj E cx live keep body e2 m2 K
 | .exit i=>K (.exit i) e m
 | .ret=>K .ret e m
theorem zaj.step (hE:Lim Γ X E) {cx:Cx} {live:List Nat} {keep:List Id} {body:C} {e:Env} {m:Mem} {K:Ex->Env->Mem->Prop} (h:wpC E cx body e m (z7b E cx live keep body K)):zaj E cx live keep body e m K:=by
 obtain⟨x,e',m',h1,h2⟩:=wpC_ok _ _ _ _ h
 refine⟨?_⟩
 rw [hE.fix]
 simp only [Go.Evl.step,h1]
 cases x with
 | normal=>
  simp only [z7b,zzz,z8a] at h2
  exact h2.got
 | exit i=>exact⟨_,_,_,rfl,h2⟩
 | ret=>exact⟨_,_,_,rfl,h2⟩
theorem zaj.mono {cx:Cx} {live:List Nat} {keep:List Id} {body:C} {e:Env} {m:Mem} {K K':Ex->Env->Mem->Prop} (h:zaj E cx live keep body e m K) (hk:∀x e m,K x e m->K' x e m):zaj E cx live keep body e m K':=by
 obtain⟨x,e',m',h1,h2⟩:=h.got
 exact⟨x,e',m',h1,hk _ _ _ h2⟩
def ypb:List Nat->List V->Env->(Env->Prop)->Prop
 | t::r,v::s,e,K=>yoh e t v fun e'=>ypb r s e' K
 | [],_,e,K=>K e
 | _::_,[],e,K=>K e
theorem yir:∀(ps:List Nat) (vs:List V) (e:Env) (K:Env->Prop),ypb ps vs e K=K (yni ps vs e)
 | [],[],e,K=>rfl
 | [],_::_,e,K=>rfl
 | _::_,[],e,K=>rfl
 | t::r,v::s,e,K=>by simp only [ypb,yni,ya9,yir r s]
def ydu (o:Id) (ks:List Id) (K:V->Mem->Prop) (x:Ex) (_:Env) (m2:Mem):Prop:=zl4 m2 o fun ob=>
 match ob with
 | some (.loop e' ps' a' b' lv' true false _)=>
  (match x with
  | .normal=>zzm m2 o (.loop e' ps' a' b' lv' false false none) fun m3=>gcK ks [] m3 fun m4=>K (.d (.bool true)) m4
  | .exit id=>zzm m2 o (.loop e' ps' a' b' lv' false true (some (.exit id))) fun m3=>K (.d (.bool false)) m3
  | .ret=>zzm m2 o (.loop e' ps' a' b' lv' false true (some .ret)) fun m3=>K (.d (.bool false)) m3)
 | _=>False
def ydv (E:Oracle) (nx:Nat) (o:Id) (lv:Nat) (b:C) (ks:List Id) (K:V->Mem->Prop) (x:Ex) (e1:Env) (m1:Mem):Prop:=
 match x with
 | .normal=>zl4 m1 o fun ob=>
  (match ob with
  | some (.loop e' ps' a' b' lv' false false j')=>zzm m1 o (.loop e' ps' a' b' lv' true false j') fun m2=>wpC E ⟨lv,nx⟩ b e1 m2 (ydu o ks K)
  | _=>False)
 | _=>False
def ylm (E:Oracle) (nx:Nat) (o:Id) (args:List V) (m:Mem) (K:V->Mem->Prop):Prop:=zl4 m o fun ob=>
 match ob with
 | some (.loop e ps a b lv false false _)=>
  (match Nat.beq ps.length args.length with
  | true=>ypb ps args e fun e0=>z8g m fun ks=>wpC E ⟨lv,nx⟩ a e0 m (ydv E nx o lv b ks K)
  | false=>False)
 | _=>False
theorem Rnd.enter (hE:Lim Γ X E) {nx:Nat} {o:Id} {args:List V} {m:Mem} {K:V->Mem->Prop} (h:ylm E nx o args m K):Rnd E nx o args m K:=by
 refine⟨?_⟩
 rw [hE.fix]
 simp only [ylm,zc4] at h
 simp only [Go.Evl.step]
 split at h
 ·rename_i hl
  simp only [hl]
  split at h
  ·rename_i hlen
   rw [if_pos (Nat.eq_of_beq_eq_true hlen)]
   simp only [yir,zs9] at h
   obtain⟨x,e1,m1,h1,h2⟩:=wpC_ok _ _ _ _ h
   simp only [h1]
   cases x with
   | normal=>
    simp only [ydv,zc4] at h2
    split at h2
    ·rename_i hl1
     simp only [hl1]
     rw [zex] at h2
     obtain⟨x,e2,m2,h3,h4⟩:=wpC_ok _ _ _ _ h2
     simp only [h3]
     simp only [ydu,zc4] at h4
     split at h4
     ·rename_i hl2
      simp only [hl2]
      cases x with
      | normal=>
       simp only [zex,z8a] at h4
       exact⟨_,_,rfl,h4⟩
      | exit i=>
       simp only [zex] at h4
       exact⟨_,_,rfl,h4⟩
      | ret=>
       simp only [zex] at h4
       exact⟨_,_,rfl,h4⟩
     ·exact h4.elim
    ·exact h2.elim
   | exit i=>exact h2.elim
   | ret=>exact h2.elim
  ·exact h.elim
 ·exact h.elim
end
end Go.Evl
