
/-
 The evaluator's limit, and what is to be shown for code to end well.
-/
import Derived.Test.YtmbofbehkalgkaaGreatDoorEvSyn
namespace Go.Evl
def Le (F G:Oracle):Prop:=∀q r,F q=some r->G q=some r
structure z2s (It:Nat->Oracle) (E:Oracle):Prop where
 up:∀n,Le (It n) (It (n+1))
 lim:∀q r,E q=some r↔∃n,It n q=some r
theorem z2s.le {It:Nat->Oracle} {E:Oracle} (h:z2s It E) {n m:Nat} (hnm:n<=m):Le (It n) (It m):=by
 induction hnm with
 | refl=>exact fun _ _ h=>h
 | step _ ih=>exact fun q r hq=>h.up _ q r (ih q r hq)
structure zbq {α:Type} (It:Nat->Oracle) (E:Oracle) (f:Oracle->Option α):Prop where
 mono:∀F G,Le F G->∀r,f F=some r->f G=some r
 reach:∀r,f E=some r->∃n,f (It n)=some r
section
variable {It : Nat -> Oracle} {E : Oracle} {α β : Type}
theorem zbq.const {f:Oracle->Option α} (h:∀F G,f F=f G):zbq It E f:=
 ⟨fun F G _ _ hr=>(h G F).trans hr,fun _ hr=>⟨0,(h _ E).trans hr⟩⟩
theorem zbq.query (hc:z2s It E) (q:Req):zbq It E (fun F=>F q):=
 ⟨fun _ _ h r hr=>h q r hr,fun r hr=>(hc.lim q r).1 hr⟩
theorem zbq.bind (hc:z2s It E) {f:Oracle->Option α} {k:α->Oracle->Option β} (hf:zbq It E f) (hk:∀a,zbq It E (k a)):zbq It E (fun F=>(f F).bind fun a=>k a F):=by
 refine⟨fun F G h r hr=> ?_,fun r hr=> ?_⟩
 ·obtain⟨a,h1,h2⟩:=Option.bind_eq_some_iff.1 hr
  exact Option.bind_eq_some_iff.2 ⟨a,hf.mono F G h a h1,(hk a).mono F G h r h2⟩
 ·obtain⟨a,h1,h2⟩:=Option.bind_eq_some_iff.1 hr
  obtain⟨n,hn⟩:=hf.reach a h1
  obtain⟨k',hk'⟩:=(hk a).reach r h2
  refine⟨max n k',Option.bind_eq_some_iff.2 ⟨a,hf.mono _ _ (hc.le (Nat.le_max_left _ _)) a hn,(hk a).mono _ _ (hc.le (Nat.le_max_right _ _)) r hk'⟩⟩
theorem zbq.of_eq {f g:Oracle->Option α} (h:∀F,f F=g F) (hg:zbq It E g):zbq It E f:=by
 have:f=g:=funext h
 rw [this];exact hg
theorem zjj {p:Prop} [Decidable p] {f g:Oracle->Option α} (hf:zbq It E f) (hg:zbq It E g):zbq It E (fun F=>if p then f F else g F):=by
 by_cases h:p
 ·exact zbq.of_eq (fun F=>if_pos h) hf
 ·exact zbq.of_eq (fun F=>if_neg h) hg
variable (hc : z2s It E)
include hc
theorem zwl (cx:Cx) (f:V) (args:List V) (m:Mem):zbq It E (fun F=>zfr F cx f args m):=by
 cases f with
 | fn f first caps=>
  refine zbq.of_eq (g:=fun F=>(F (.call cx.nx f (first ++args++caps) m)).bind fun r=>match r with| .val v m'=>some (v,m')|_=>none) (fun F=> ?_) (zbq.bind hc (zbq.query hc _) fun r=>zbq.const fun _ _=>rfl)
  simp only [zfr]
  cases F (.call cx.nx f (first ++args++caps) m) with
  | none=>rfl
  | some r=>cases r<;>rfl
 | yld o=>
  refine zbq.of_eq (g:=fun F=>(F (.round cx.nx o args m)).bind fun r=>match r with| .val v m'=>some (v,m')|_=>none) (fun F=> ?_) (zbq.bind hc (zbq.query hc _) fun r=>zbq.const fun _ _=>rfl)
  simp only [zfr]
  cases F (.round cx.nx o args m) with
  | none=>rfl
  | some r=>cases r<;>rfl
 | _=>exact zbq.const fun _ _=>rfl
theorem zjs (cx:Cx) (slot:Nat) (shared imm:Bool) (f:V) (args:List V) (m:Mem):zbq It E (fun F=>zg6 F cx slot shared imm f args m):=by
 unfold zg6
 refine zjj (zjj ?_ (zbq.const fun _ _=>rfl)) ?_
 ·refine zbq.of_eq (g:=fun F=>(zfr F cx f args m).bind fun p=>if zhq cx.nx (idsAll (zdr cx.nx p.2)) then zlh cx slot cx.nx imm (zdr cx.nx p.2) p.2 p.1 else none) (fun F=> ?_) (zbq.bind hc (zwl hc cx f args m) fun r=>zbq.const fun _ _=>rfl)
  cases zfr F cx f args m<;>rfl
 ·cases f with
  | fn f first caps=>
   dsimp only
   generalize zdf false m (first ++args++caps)=o
   cases o with
   | none=>exact zbq.const fun _ _=>rfl
   | some ds=>
    refine zbq.of_eq (g:=fun F=>(F (.call 0 f (asV ds) [])).bind fun r=>match r with| .val v m'=>zlh cx slot 0 imm m m' v|_=>none) (fun F=> ?_) (zbq.bind hc (zbq.query hc _) fun r=>zbq.const fun _ _=>rfl)
    simp only
    cases F (.call 0 f (asV ds) []) with
    | none=>rfl
    | some r=>cases r<;>rfl
  | _=>exact zbq.const fun _ _=>rfl
theorem z6o (f:V) (args:List V) (m:Mem):zbq It E (fun F=>zrb F f args m):=by
 cases f with
 | fn f first caps=>
  simp only [zrb]
  refine zjj ?_ (zbq.const fun _ _=>rfl)
  refine zbq.of_eq (g:=fun F=>(F (.call 1 f (renL (number ⟨0,0⟩ 0 0 (reach 0 m 64 (idsL (first ++args++caps)) [])) (first ++args++caps)) (moved (number ⟨0,0⟩ 0 0 (reach 0 m 64 (idsL (first ++args++caps)) [])) m (number ⟨0,0⟩ 0 0 (reach 0 m 64 (idsL (first ++args++caps)) []))))).bind fun r=>match r with
   | .val v m1=>if z4b m1 (moved (number ⟨0,0⟩ 0 0 (reach 0 m 64 (idsL (first ++args++caps)) [])) m (number ⟨0,0⟩ 0 0 (reach 0 m 64 (idsL (first ++args++caps)) [])))&&(ids v).all (fun i=>((number ⟨0,0⟩ 0 0 (reach 0 m 64 (idsL (first ++args++caps)) [])).map (·.2)).elem i) then some (ren (zl9 (number ⟨0,0⟩ 0 0 (reach 0 m 64 (idsL (first ++args++caps)) []))) v) else none
   | _=>none) (fun F=> ?_) (zbq.bind hc (zbq.query hc _) fun r=>zbq.const fun _ _=>rfl)
  generalize number ⟨0,0⟩ 0 0 (reach 0 m 64 (idsL (first ++args++caps)) [])=σ
  cases F (.call 1 f (renL σ (first ++args++caps)) (moved σ m σ)) with
  | none=>rfl
  | some r=>cases r<;>rfl
 | _=>exact zbq.const fun _ _=>rfl
theorem zwm (imm:Bool) (f:V) (args:List V) (m:Mem):zbq It E (fun F=>ztu F imm f args m):=by
 cases f with
 | fn f first caps=>
  simp only [ztu]
  refine zjj ?_ (zbq.const fun _ _=>rfl)
  refine zbq.of_eq (g:=fun F=>(F (.call 1 f (renL (number ⟨0,0⟩ 0 0 (reach 0 m 64 (idsL ((first ++args++caps).map (z1d m))) [])) ((first ++args++caps).map (z1d m))) (moved (number ⟨0,0⟩ 0 0 (reach 0 m 64 (idsL ((first ++args++caps).map (z1d m))) [])) m (number ⟨0,0⟩ 0 0 (reach 0 m 64 (idsL ((first ++args++caps).map (z1d m))) []))))).bind fun r=>match r with
   | .val v m1=>
    if imm then
     if zhq 1 (zhi (moved (number ⟨0,0⟩ 0 0 (reach 0 m 64 (idsL ((first ++args++caps).map (z1d m))) [])) m (number ⟨0,0⟩ 0 0 (reach 0 m 64 (idsL ((first ++args++caps).map (z1d m))) []))))&&zhq 1 (idsAll (zdr 1 m1)) then
      match zlh ⟨0,1⟩ 0 1 true (zdr 1 m1) m1 v with
      | some (v',m2)=>if(ids v').all (fun i=>((number ⟨0,0⟩ 0 0 (reach 0 m 64 (idsL ((first ++args++caps).map (z1d m))) [])).map (·.2)).elem i) then(z0r (number ⟨0,0⟩ 0 0 (reach 0 m 64 (idsL ((first ++args++caps).map (z1d m))) [])) m2 (number ⟨0,0⟩ 0 0 (reach 0 m 64 (idsL ((first ++args++caps).map (z1d m))) [])) m).map fun m'=>(ren (zl9 (number ⟨0,0⟩ 0 0 (reach 0 m 64 (idsL ((first ++args++caps).map (z1d m))) []))) v',m') else none
      | none=>none
     else none
    else if(ids v).all (fun i=>((number ⟨0,0⟩ 0 0 (reach 0 m 64 (idsL ((first ++args++caps).map (z1d m))) [])).map (·.2)).elem i) then(z0r (number ⟨0,0⟩ 0 0 (reach 0 m 64 (idsL ((first ++args++caps).map (z1d m))) [])) m1 (number ⟨0,0⟩ 0 0 (reach 0 m 64 (idsL ((first ++args++caps).map (z1d m))) [])) m).map fun m'=>(ren (zl9 (number ⟨0,0⟩ 0 0 (reach 0 m 64 (idsL ((first ++args++caps).map (z1d m))) []))) v,m') else none
   | _=>none) (fun F=> ?_) (zbq.bind hc (zbq.query hc _) fun r=>zbq.const fun _ _=>rfl)
  generalize number ⟨0,0⟩ 0 0 (reach 0 m 64 (idsL ((first ++args++caps).map (z1d m))) [])=σ
  cases F (.call 1 f (renL σ ((first ++args++caps).map (z1d m))) (moved σ m σ)) with
  | none=>rfl
  | some r=>cases r<;>rfl
 | _=>exact zbq.const fun _ _=>rfl
theorem zwk {γ:Type} {run:Oracle->γ->Option α} (h:∀a,zbq It E (fun F=>run F a)):∀l:List γ,zbq It E (fun F=>z8q (run F) l)
 | []=>zbq.const fun _ _=>rfl
 | a::r=>zbq.bind hc (h a) fun _=>zbq.bind hc (zwk h r) fun _=>zbq.const fun _ _=>rfl
theorem z3n {run:Oracle->Mem->Option (V×Mem)} (h:∀m,zbq It E (fun F=>run F m)) (m:Mem) (v:V):zbq It E (fun F=>zh3 (run F) m v):=by
 unfold zh3
 split
 ·split
  ·exact zjj (zbq.bind hc (h _) fun _=>zbq.bind hc (zwk hc (fun _=>h _) _) fun _=>zbq.const fun _ _=>rfl) (zbq.const fun _ _=>rfl)
  ·exact h m
 ·exact h m
theorem znn {body:Oracle->Env->Mem->Option (Ex×Env×Mem)} (h:∀e m,zbq It E (fun F=>body F e m)) (it:Nat) (i:Id) (out nxt pair:Nat) (live:List Nat) (keep:List Id):
  ∀(l:List (D×V)) (e:Env) (m:Mem),zbq It E (fun F=>zcl (body F) it i out nxt pair live keep l e m)
 | [],_,_=>zbq.const fun _ _=>rfl
 | (k,v)::r,e,m=>by
  refine zbq.bind hc (h _ _) fun p=> ?_
  unfold zd3
  split
  ·exact zjj (znn h it i out nxt pair live keep r _ _) (zbq.const fun _ _=>rfl)
  ·exact zbq.const fun _ _=>rfl
theorem z3p {body:Oracle->Env->Mem->Option (Ex×Env×Mem)} (h:∀e m,zbq It E (fun F=>body F e m)) (cx:Cx) (it:Nat) (x:Opd) (out nxt pair:Nat) (live:List Nat) (e:Env) (m:Mem):
  zbq It E (fun F=>zgr (body F) cx it x out nxt pair live e m):=by
 unfold zgr
 split
 ·split
  ·exact zbq.bind hc (zbq.bind hc (znn hc h _ _ _ _ _ _ _ _ _ _) fun _=>zbq.bind hc (zwk hc (fun _=>znn hc h _ _ _ _ _ _ _ _ _ _) _) fun _=>zbq.const fun _ _=>rfl) fun _=>zbq.const fun _ _=>rfl
  ·exact zbq.const fun _ _=>rfl
 ·exact zbq.const fun _ _=>rfl
theorem z3o (cx:Cx) (slot:Nat) (e:Env) (m:Mem) (op:COp):zbq It E (fun F=>zbz F cx slot e m op):=by
 cases op with
 | call s i f args=>exact zjs hc cx slot s i _ _ m
 | callD f args=>
  simp only [zbz]
  split
  ·split
   ·exact zjs hc cx slot false true _ _ m
   ·exact zbq.const fun _ _=>rfl
  ·exact zbq.const fun _ _=>rfl
 | callK i f args=>
  refine zbq.of_eq (g:=fun F=>(zg6 F cx slot true i (znc (f.ev e)) (evs e args) m).bind fun p=>if leM m p.2 m=true then some (p.1,m) else none) (fun F=> ?_) (zbq.bind hc (zjs hc cx slot true i _ _ m) fun p=>zbq.const fun _ _=>rfl)
  simp only [zbz]
  cases zg6 F cx slot true i (znc (f.ev e)) (evs e args) m<;>rfl
 | callQ f args=>
  refine zbq.of_eq (g:=fun F=>(zrb F (znc (f.ev e)) (evs e args) m).bind fun v=>some (v,m)) (fun F=> ?_) (zbq.bind hc (z6o hc _ _ m) fun p=>zbq.const fun _ _=>rfl)
  simp only [zbz]
  cases zrb F (znc (f.ev e)) (evs e args) m<;>rfl
 | callU b f args=>exact zwm hc b _ _ m
 | callN f args=>
  simp only [zbz]
  split
  ·split
   ·exact zjs hc cx slot false false _ _ m
   ·exact zbq.const fun _ _=>rfl
  ·exact zbq.const fun _ _=>rfl
 | callB i f args b=>exact z3n hc (fun m=>zjs hc cx slot true i _ _ m) m _
 | callR i f args rs=>
  refine zbq.of_eq (g:=fun F=>(zg6 F cx slot true i (znc (f.ev e)) (evs e args) m).bind fun p=>if z64 m p.2 (rs.map (get e))=true then some p else none) (fun F=> ?_) (zbq.bind hc (zjs hc cx slot true i _ _ m) fun p=>zbq.const fun _ _=>rfl)
  simp only [zbz]
  cases zg6 F cx slot true i (znc (f.ev e)) (evs e args) m<;>rfl
 | _=>exact zbq.const fun _ _=>rfl
theorem yba (cx:Cx) (e:Env) (m:Mem) (o:CO):zbq It E (fun F=>zdd F cx e m o):=by
 obtain⟨dst,guard,op⟩:=o
 cases guard with
 | none=>exact z3o hc cx _ e m op
 | some g=>
  obtain⟨t,want⟩:=g
  simp only [zdd]
  split
  ·split
   ·exact z3o hc cx _ e m op
   ·exact zbq.const fun _ _=>rfl
  ·exact zbq.const fun _ _=>rfl
  ·exact zbq.const fun _ _=>rfl
theorem zlr (cx:Cx):∀(os:List CO) (e:Env) (m:Mem),zbq It E (fun F=>zfd F cx os e m)
 | [],e,m=>zbq.const fun _ _=>rfl
 | o::r,e,m=>by
  refine zbq.of_eq (g:=fun F=>(zdd F cx e m o).bind fun p=>zfd F cx r (put? e o.dst p.1) p.2) (fun F=> ?_) (zbq.bind hc (yba hc cx e m o) fun p=>zlr cx r _ _)
  simp only [zfd]
  cases zdd F cx e m o<;>rfl
def yl8:Res->Option (Ex×Env×Mem)
 | .st x e' m'=>some (x,e',m')
 | _=>none
def yhs (cx:Cx) (i:Id) (e:Env):Res->Option (Ex×Env×Mem)
 | .val _ m'=>
  match look m' i with
  | some (.loop _ _ _ _ _ false _ j)=>
   if zhq cx.nx (idsAll (zdr cx.nx m')) then
    let m2:=upd (zdr cx.nx m') i .gone
    match j with
    | none=>some (.normal,e,m2)
    | some j=>some (j.ex,e,m2)
   else none
  | _=>none
 | _=>none
theorem zgd (cx:Cx):∀(c:C) (e:Env) (m:Mem),zbq It E (fun F=>evC F cx c e m)
 | .skip,e,m=>zbq.const fun _ _=>rfl
 | .label,e,m=>zbq.const fun _ _=>rfl
 | .exit _,e,m=>zbq.const fun _ _=>rfl
 | .ret,e,m=>zbq.const fun _ _=>rfl
 | .bad,e,m=>zbq.const fun _ _=>rfl
 | .scope c,e,m=>by simp only [evC];exact zgd cx c e m
 | .fz t c,e,m=>by
  simp only [evC]
  cases freeze false m (get e t) with
  | some d=>exact zgd cx c _ m
  | none=>exact zbq.const fun _ _=>rfl
 | .reg _ ops kill,e,m=>by
  refine zbq.of_eq (g:=fun F=>(zfd F cx ops e m).bind fun p=>some (.normal,zbs kill p.1,p.2)) (fun F=> ?_) (zbq.bind hc (zlr hc cx ops e m) fun p=>zbq.const fun _ _=>rfl)
  simp only [evC]
  cases zfd F cx ops e m<;>rfl
 | .regC ops kill chk,e,m=>zbq.bind hc (zlr hc cx ops e m) fun p=>zbq.const fun _ _=>rfl
 | .seq a b,e,m=>by
  refine zbq.of_eq (g:=fun F=>(evC F cx a e m).bind fun p=>match p with|(.normal,e',m')=>evC F cx b e' m'|p=>some p) (fun F=> ?_) (zbq.bind hc (zgd cx a e m) fun p=> ?_)
  ·simp only [evC]
   cases evC F cx a e m with
   | none=>rfl
   | some p=>obtain⟨x,e',m'⟩:=p;cases x<;>rfl
  ·obtain⟨x,e',m'⟩:=p
   cases x with
   | normal=>exact zgd cx b e' m'
   | _=>exact zbq.const fun _ _=>rfl
 | .cond c a b,e,m=>by
  simp only [evC]
  split
  ·exact zjj (zgd cx a e m) (zgd cx b e m)
  ·exact zbq.const fun _ _=>rfl
 | .block id c,e,m=>by
  refine zbq.of_eq (g:=fun F=>(evC F cx c e m).bind fun p=>match p with|(.exit j,e',m')=>if j=id then some (.normal,e',m') else some (.exit j,e',m')|p=>some p) (fun F=> ?_) (zbq.bind hc (zgd cx c e m) fun p=>zbq.const fun _ _=>rfl)
  simp only [evC]
  cases evC F cx c e m with
  | none=>rfl
  | some p=>obtain⟨x,e',m'⟩:=p;cases x<;>rfl
 | .loop live c,e,m=>by
  refine zbq.of_eq (g:=fun F=>(F (.loop cx live (zhi m) c (only live e) (gc (zhi m) (only live e) m))).bind yl8) (fun F=> ?_) (zbq.bind hc (zbq.query hc _) fun p=>zbq.const fun _ _=>rfl)
  simp only [evC]
  cases F (.loop cx live (zhi m) c (only live e) (gc (zhi m) (only live e) m)) with
  | none=>rfl
  | some r=>cases r<;>rfl
 | .rangeM pre it x out nxt pair live ops kill code,e,m=>by
  simp only [evC]
  exact zbq.bind hc (zlr hc cx pre e m) fun p=>z3p hc (fun e m=>zbq.bind hc (zlr hc cx ops e m) fun q=>zgd cx code _ _) _ _ _ _ _ _ _ _ _
 | .rangeFn slot f ps a b,e,m=>by
  simp only [evC]
  refine zjj ?_ (zbq.const fun _ _=>rfl)
  cases f.ev e with
  | fn g first caps=>
   refine zbq.of_eq (g:=fun F=>(F (.call cx.nx g (first ++[.yld (newId cx slot m)]++caps) (upd m (newId cx slot m) (.loop e ps a b cx.lv false false none)))).bind (yhs cx (newId cx slot m) e)) (fun F=> ?_) (zbq.bind hc (zbq.query hc _) fun p=>zbq.const fun _ _=>rfl)
   simp only
   cases F (.call cx.nx g (first ++[.yld (newId cx slot m)]++caps) (upd m (newId cx slot m) (.loop e ps a b cx.lv false false none))) with
   | none=>rfl
   | some r=>cases r<;>rfl
  | _=>exact zbq.const fun _ _=>rfl
theorem z3q (Γ:Nat->Option CF) (X:Extern) (q:Req):zbq It E (fun F=>step Γ X F q):=by
 cases q with
 | call lv f args m=>
  simp only [step]
  cases X f with
  | some x=>exact zbq.const fun _ _=>rfl
  | none=>
   cases Γ f with
   | none=>exact zbq.const fun _ _=>rfl
   | some cf=>
    refine zbq.of_eq (g:=fun F=>(evC F ⟨lv,lv+1⟩ cf.body (params 0 args) m).bind fun p=>match p with|(.normal,e,m')=>(results m' e cf.results).map fun v=> .val v m'|(.ret,e,m')=>(results m' e cf.results).map fun v=> .val v m'|_=>none) (fun F=> ?_) (zbq.bind hc (zgd hc _ _ _ _) fun p=>zbq.const fun _ _=>rfl)
    simp only
    cases evC F ⟨lv,lv+1⟩ cf.body (params 0 args) m with
    | none=>rfl
    | some p=>obtain⟨x,e',m'⟩:=p;cases x<;>rfl
 | round nx o args m=>
  simp only [step]
  split
  ·rename_i e ps a b lv j hl
   refine zjj ?_ (zbq.const fun _ _=>rfl)
   refine zbq.of_eq (g:=fun F=>(evC F ⟨lv,nx⟩ a (ylc ps args e) m).bind fun p=>match p with
    | (.normal,e1,m1)=>(match look m1 o with
     | some (.loop e' ps' a' b' lv' false false j')=>(evC F ⟨lv,nx⟩ b e1 (upd m1 o (.loop e' ps' a' b' lv' true false j'))).bind fun p=>match p with
      | (x,_,m2)=>match look m2 o with
       | some (.loop e' ps' a' b' lv' true false _)=>(match x with
        | .normal=>some (.val (.d (.bool true)) (gc (zhi m) [] (upd m2 o (.loop e' ps' a' b' lv' false false none))))
        | .exit id=>some (.val (.d (.bool false)) (upd m2 o (.loop e' ps' a' b' lv' false true (some (.exit id)))))
        | .ret=>some (.val (.d (.bool false)) (upd m2 o (.loop e' ps' a' b' lv' false true (some .ret)))))
       | _=>none
     | _=>none)
    | _=>none) (fun F=> ?_) (zbq.bind hc (zgd hc _ _ _ _) fun p=> ?_)
   ·simp only
    cases evC F ⟨lv,nx⟩ a (ylc ps args e) m with
    | none=>rfl
    | some p=>
     obtain⟨x,e',m'⟩:=p
     cases x with
     | normal=>
      simp only [Option.bind]
      split
      ·rename_i e2 ps2 a2 b2 lv2 j2 hlk
       simp only [hlk]
       cases evC F ⟨lv,nx⟩ b e' (upd m' o (.loop e2 ps2 a2 b2 lv2 true false j2)) with
       | none=>rfl
       | some p=>rfl
      ·rename_i hno
       split
       ·rename_i hlk
        exact absurd hlk (hno _ _ _ _ _ _)
       ·rfl
     | exit id=>rfl
     | ret=>rfl
   ·obtain⟨x,e1,m1⟩:=p
    cases x with
    | normal=>
     simp only
     split
     ·exact zbq.bind hc (zgd hc _ _ _ _) fun p=>zbq.const fun _ _=>rfl
     ·exact zbq.const fun _ _=>rfl
    | _=>exact zbq.const fun _ _=>rfl
  ·exact zbq.const fun _ _=>rfl
 | loop cx live keep body e m=>
  simp only [step]
  refine zbq.of_eq (g:=fun F=>(evC F cx body e m).bind fun p=>match p with|(.normal,e',m')=>F (.loop cx live keep body (only live e') (gc keep (only live e') m'))|(x,e',m')=>some (.st x e' m')) (fun F=> ?_) (zbq.bind hc (zgd hc _ _ _ _) fun p=> ?_)
  ·cases evC F cx body e m with
   | none=>rfl
   | some p=>obtain⟨x,e',m'⟩:=p;cases x<;>rfl
  ·obtain⟨x,e',m'⟩:=p
   cases x with
   | normal=>exact zbq.query hc _
   | _=>exact zbq.const fun _ _=>rfl
end
structure Lim (Γ:Nat->Option CF) (X:Extern) (E:Oracle):Prop where
 fix:∀q,E q=step Γ X E q
 reach:∀q r,E q=some r->∃n,iter Γ X n q=some r
theorem zxz {Γ:Nat->Option CF} {X:Extern} {F G:Oracle} (h:Le F G):Le (step Γ X F) (step Γ X G):=by
 have hc:z2s (fun _=>G) G:=⟨fun _ _ _ h=>h,fun _ _=>⟨fun h=>⟨0,h⟩,fun h=>h.elim fun _ h=>h⟩⟩
 exact fun q r hr=>(z3q hc Γ X q).mono F G h r hr
theorem z63 (Γ:Nat->Option CF) (X:Extern):∀n,Le (iter Γ X n) (iter Γ X (n+1))
 | 0=>fun _ _ h=>by simp [iter] at h
 | n+1=>zxz (z63 Γ X n)
theorem exists_lim (Γ:Nat->Option CF) (X:Extern):∃E,Lim Γ X E:=by
 have hd:∀q:Req,∃a:Option Res,∀r,a=some r↔∃n,iter Γ X n q=some r:=by
  intro q
  by_cases h:∃r,∃n,iter Γ X n q=some r
  ·obtain⟨r,n,hn⟩:=h
   refine⟨some r,fun r'=>⟨fun h=>⟨n,by rw [hn,h]⟩,fun⟨k,hk⟩=> ?_⟩⟩
   have up:∀a b,a<=b->Le (iter Γ X a) (iter Γ X b):=by
    intro a b hab
    induction hab with
    | refl=>exact fun _ _ h=>h
    | step _ ih=>exact fun q r hq=>z63 Γ X _ q r (ih q r hq)
   rw [<-up n (max n k) (Nat.le_max_left _ _) q r hn,up k (max n k) (Nat.le_max_right _ _) q r' hk]
  ·exact⟨none,fun r=>⟨fun h=>(nomatch h),fun hn=>absurd ⟨r,hn⟩ h⟩⟩
 have ⟨E,hE⟩:=Classical.axiomOfChoice hd
 have hc:z2s (iter Γ X) E:=⟨z63 Γ X,hE⟩
 refine⟨E,⟨fun q=> ?_,fun q r h=>(hE q r).1 h⟩⟩
 apply Option.ext
 intro r
 constructor
 ·intro h
  obtain⟨n,hn⟩:=(hE q r).1 h
  cases n with
  | zero=>simp [iter] at hn
  | succ n=>exact zxz (fun q r h=>(hE q r).2 ⟨n,h⟩) q r hn
 ·intro h
  obtain⟨n,hn⟩:=(z3q hc Γ X q).reach r h
  exact(hE q r).2 ⟨n+1,hn⟩
theorem Lim.of_iter {Γ:Nat->Option CF} {X:Extern} {E:Oracle} (h:Lim Γ X E):∀(n:Nat) (q:Req) (r:Res),iter Γ X n q=some r->E q=some r
 | 0,_,_,hn=>by simp [iter] at hn
 | n+1,q,r,hn=>by
  rw [h.fix]
  exact zxz (fun q r=>h.of_iter n q r) q r hn
end Go.Evl
namespace Go.Evl
structure zez (p k:Prop):Prop where
 need:p
 go:k
structure Br (t:Bool) (a b:Prop):Prop where
 yes:t=true->a
 no:t=false->b
structure Cmp (p a b:Prop):Prop where
 yes:p->a
 no:¬p->b
structure Wr (k:IntKind) (x:Int) (K:Int->Prop):Prop where
 go:K (k.wrap x)
structure Rem (a b:Int) (K:Int->Prop):Prop where
 ne:b≠0
 go:K (a.tmod b)
structure Quo (k:IntKind) (a b:Int) (K:Int->Prop):Prop where
 ne:b≠0
 go:K (k.wrap (a.tdiv b))
structure zgz (cs:List D) (off:Nat) (K:D->Prop):Prop where
 got:∃d,cs[off]? =some d/\K d
structure ya0 (cs:List V) (off:Nat) (K:V->Prop):Prop where
 got:∃d,cs[off]? =some d/\K d
structure zf8 (cs:List D) (off n:Nat) (K:List D->Prop):Prop where
 le:off+n<=cs.length
 go:K (win cs off n)
structure z59 (s:List UInt8) (i:Nat) (K:UInt8->Prop):Prop where
 got:∃b,s[i]? =some b/\K b
structure zsi {α:Type} (o:Option α) (K:α->Prop):Prop where
 got:∃a,o=some a/\K a
def Fc (E:Oracle) (f:Nat) (args:List V) (r:V):Prop:=∃v m',E (.call 0 f args [])=some (.val v m')/\thaw m' v=some r
structure zaz (E:Oracle) (f:Nat) (args:List V) (K:V->Prop):Prop where
 got:∃r,Fc E f args r/\K r
structure zej (E:Oracle) (f:Nat) (args:List V) (cx:Cx) (slot:Nat) (m:Mem) (K:V->Mem->Prop):Prop where
 got:∃v m' p,E (.call 0 f args [])=some (.val v m')/\settle cx slot 0 m m' v=some p/\K p.1 p.2
structure In (E:Oracle) (lv f:Nat) (args:List V) (m:Mem) (K:V->Mem->Prop):Prop where
 got:∃v m',E (.call lv f args m)=some (.val v m')/\K v m'
structure Rnd (E:Oracle) (nx:Nat) (o:Id) (args:List V) (m:Mem) (K:V->Mem->Prop):Prop where
 got:∃v m',E (.round nx o args m)=some (.val v m')/\K v m'
structure zao (E:Oracle) (cx:Cx) (live:List Nat) (keep:List Id) (body:C) (e:Env) (m:Mem) (K:Ex->Env->Mem->Prop):Prop where
 got:∃x e' m',E (.loop cx live keep body e m)=some (.st x e' m')/\K x e' m'
structure Chk (b:Bool) (k:Prop):Prop where
 need:b=true
 go:k
structure Ret (a b:V):Prop where
 eq:a=b
def ygk:Env->Nat->(V->Prop)->Prop
 | [],_,K=>K .undef
 | (u,v)::r,t,K=>match Nat.beq u t with
  | true=>K v
  | false=>ygk r t K
theorem znv:∀(e:Env) (t:Nat) (K:V->Prop),ygk e t K=K (get e t)
 | [],_,_=>rfl
 | (u,v)::r,t,K=>by
  simp only [ygk,get]
  cases h:Nat.beq u t with
  | true=>simp [Nat.eq_of_beq_eq_true h]
  | false=>
   have:u≠t:=fun hh=>by rw [hh,Nat.beq_refl] at h;cases h
   simp only [if_neg this]
   exact znv r t K
def opK (e:Env) (x:Opd) (K:V->Prop):Prop:=
 match x with
 | .t n=>ygk e n K
 | .k v=>K v
theorem zbo (e:Env) (x:Opd) (K:V->Prop):opK e x K=K (x.ev e):=by
 cases x with
 | t n=>exact znv e n K
 | k v=>rfl
def z56 (e:Env):List Opd->(List V->Prop)->Prop
 | [],K=>K []
 | x::r,K=>opK e x fun v=>z56 e r fun vs=>K (v::vs)
theorem zh4 (e:Env):∀(l:List Opd) (K:List V->Prop),z56 e l K=K (evs e l)
 | [],_=>rfl
 | x::r,K=>by simp only [z56,evs,zbo,zh4 e r]
def ybf (e:Env):List Nat->(List V->Prop)->Prop
 | [],K=>K []
 | t::r,K=>ygk e t fun v=>ybf e r fun vs=>K (v::vs)
theorem zu3 (e:Env):∀(l:List Nat) (K:List V->Prop),ybf e l K=K (l.map (get e))
 | [],_=>rfl
 | t::r,K=>by simp only [ybf,znv,zu3 e r,List.map_cons]
def opK? (e:Env) (x:Option Opd) (K:Option V->Prop):Prop:=
 match x with
 | none=>K none
 | some x=>opK e x fun v=>K (some v)
theorem opK?_eq (e:Env) (x:Option Opd) (K:Option V->Prop):opK? e x K=K (x.map (·.ev e)):=by
 cases x with
 | none=>rfl
 | some x=>exact zbo e x _
def ylm:Env->Nat->V->(Env->Prop)->Prop
 | [],t,v,K=>K [(t,v)]
 | (u,x)::r,t,v,K=>match Nat.beq u t with
  | true=>K ((t,v)::r)
  | false=>ylm r t v fun r'=>K ((u,x)::r')
theorem z17:∀(e:Env) (t:Nat) (v:V) (K:Env->Prop),ylm e t v K=K (put e t v)
 | [],_,_,_=>rfl
 | (u,x)::r,t,v,K=>by
  simp only [ylm,put]
  cases h:Nat.beq u t with
  | true=>simp [Nat.eq_of_beq_eq_true h]
  | false=>
   have:u≠t:=fun hh=>by rw [hh,Nat.beq_refl] at h;cases h
   simp only [if_neg this]
   exact z17 r t v _
def put?K (e:Env) (t:Option Nat) (v:V) (K:Env->Prop):Prop:=
 match t with
 | none=>K e
 | some t=>ylm e t v K
theorem put?K_eq (e:Env) (t:Option Nat) (v:V) (K:Env->Prop):put?K e t v K=K (put? e t v):=by
 cases t with
 | none=>rfl
 | some t=>exact z17 e t v K
def ym2:List Nat->Nat->Bool
 | [],_=>false
 | u::r,t=>match Nat.beq u t with
  | true=>true
  | false=>ym2 r t
theorem yed:∀(l:List Nat) (t:Nat),ym2 l t=l.elem t
 | [],_=>rfl
 | u::r,t=>by
  simp only [ym2]
  cases h:Nat.beq u t with
  | true=>simp [Nat.eq_of_beq_eq_true h]
  | false=>
   have:t≠u:=fun hh=>by rw [hh,Nat.beq_refl] at h;cases h
   simp only [yed r t,List.elem_cons]
   have:(t==u)=false:=by simpa using this
   rw [this]
def zoz (kill:List Nat):Env->(Env->Prop)->Prop
 | [],K=>K []
 | (u,v)::r,K=>match ym2 kill u with
  | true=>zoz kill r K
  | false=>zoz kill r fun r'=>K ((u,v)::r')
theorem zmv (kill:List Nat):∀(e:Env) (K:Env->Prop),zoz kill e K=K (zbs kill e)
 | [],_=>rfl
 | (u,v)::r,K=>by
  simp only [zoz,yed]
  cases h:kill.elem u with
  | true=>
   have hm:u∈kill:=by simpa using h
   simp only [zmv kill r];simp [zbs,hm]
  | false=>
   have hm:u∉kill:=by simpa using h
   simp only [zmv kill r];simp [zbs,hm]
def yet (e:Env):List Nat->(Env->Prop)->Prop
 | [],K=>K []
 | t::r,K=>ygk e t fun v=>yet e r fun r'=>K ((t,v)::r')
theorem z14 (e:Env):∀(live:List Nat) (K:Env->Prop),yet e live K=K (only live e)
 | [],_=>rfl
 | t::r,K=>by simp only [yet,znv,z14 e r];rfl
def idB (i j:Id):Bool:=
 match Nat.beq i.slot j.slot with
 | true=>(match Nat.beq i.lv j.lv with
  | true=>Nat.beq i.k j.k
  | false=>false)
 | false=>false
theorem z1g {i j:Id} (h:idB i j=true):i=j:=by
 obtain⟨a,b,c⟩:=i
 obtain⟨x,y,z⟩:=j
 simp only [idB] at h
 split at h
 ·rename_i h1
  split at h
  ·rename_i h2
   rw [Nat.eq_of_beq_eq_true h1,Nat.eq_of_beq_eq_true h2,Nat.eq_of_beq_eq_true h]
  ·cases h
 ·cases h
theorem zw1 {i j:Id} (h:idB i j=false):i≠j:=by
 rintro rfl
 obtain⟨a,b,c⟩:=i
 simp [idB,Nat.beq_refl] at h
def zix:Mem->Id->(Option Ob->Prop)->Prop
 | [],_,K=>K none
 | (j,o)::r,i,K=>match idB j i with
  | true=>K (some o)
  | false=>zix r i K
theorem zcm:∀(m:Mem) (i:Id) (K:Option Ob->Prop),zix m i K=K (look m i)
 | [],_,_=>rfl
 | (j,o)::r,i,K=>by
  simp only [zix,look]
  cases h:idB j i with
  | true=>simp [z1g h]
  | false=>simp only [if_neg (zw1 h)];exact zcm r i K
def zts:Mem->Id->Ob->(Mem->Prop)->Prop
 | [],i,o,K=>K [(i,o)]
 | (j,x)::r,i,o,K=>match idB j i with
  | true=>K ((i,o)::r)
  | false=>zts r i o fun r'=>K ((j,x)::r')
theorem zdb:∀(m:Mem) (i:Id) (o:Ob) (K:Mem->Prop),zts m i o K=K (upd m i o)
 | [],_,_,_=>rfl
 | (j,x)::r,i,o,K=>by
  simp only [zts,upd]
  cases h:idB j i with
  | true=>simp [z1g h]
  | false=>simp only [if_neg (zw1 h)];exact zdb r i o _
def yk3 (m:Mem) (v:V) (K:Mem->Prop):Prop:=
 match v with
 | .ref o _ _ _=>zix m o fun ob=>
  match ob with
  | some (.row true t sz n xs)=>zts m o (.row false t sz n xs) K
  | _=>K m
 | _=>K m
theorem yh5 (m:Mem) (v:V) (K:Mem->Prop) (h:yk3 m v K):K (yfl m v):=by
 cases v with
 | ref o a b c=>
  simp only [yk3,zcm] at h
  simp only [yfl]
  cases hl:look m o with
  | none=>simp only [hl] at h;exact h
  | some ob=>
   simp only [hl] at h
   cases ob with
   | row wr t sz n xs=>
    cases wr with
    | true=>simp only [zdb] at h;exact h
    | false=>exact h
   | _=>exact h
 | _=>exact h
def yeb:List Id->Id->Bool
 | [],_=>false
 | u::r,t=>match idB u t with
  | true=>true
  | false=>yeb r t
theorem yec:∀(l:List Id) (t:Id),yeb l t=l.elem t
 | [],_=>rfl
 | u::r,t=>by
  simp only [yeb]
  cases h:idB u t with
  | true=>simp [z1g h]
  | false=>
   have h':t≠u:=fun hh=>zw1 h hh.symm
   simp only [yec r t,List.elem_cons]
   have:(t==u)=false:=by simpa using h'
   rw [this]
def gcF (a b c:List Id):Mem->(Mem->Prop)->Prop
 | [],K=>K []
 | (i,o)::r,K=>match yeb a i with
  | true=>gcF a b c r fun r'=>K ((i,o)::r')
  | false=>(match yeb b i with
   | true=>gcF a b c r fun r'=>K ((i,o)::r')
   | false=>(match yeb c i with
    | true=>gcF a b c r fun r'=>K ((i,o)::r')
    | false=>gcF a b c r K))
theorem yiu (a b c:List Id):∀(m:Mem) (K:Mem->Prop),gcF a b c m K=K (m.filter fun p=>a.elem p.1||b.elem p.1||c.elem p.1)
 | [],_=>rfl
 | (i,o)::r,K=>by
  simp only [gcF,yec]
  cases ha:a.elem i<;>cases hb:b.elem i<;>cases hc:c.elem i<;>simp only [yiu a b c r,List.filter_cons,ha,hb,hc]<;>rfl
def gcK (keep:List Id) (e:Env) (m:Mem) (K:Mem->Prop):Prop:=
 match m with
 | []=>K []
 | _::_=>gcF keep (idsE e) (idsAll m) m fun m1=>gcF keep (idsE e) (idsAll m1) m1 fun m2=>gcF keep (idsE e) (idsAll m2) m2 K
theorem ydu (keep:List Id) (e:Env) (m:Mem) (K:Mem->Prop):gcK keep e m K=K (gc keep e m):=by
 cases m with
 | nil=>rfl
 | cons p r=>simp only [gcK,yiu];rfl
def zze (lv slot:Nat):Mem->(Nat->Prop)->Prop
 | [],K=>K 0
 | (j,_)::r,K=>match Nat.beq j.slot slot with
  | true=>(match Nat.beq j.lv lv with
   | true=>zze lv slot r fun n=>K (max (j.k+1) n)
   | false=>zze lv slot r K)
  | false=>zze lv slot r K
theorem zrh (lv slot:Nat):∀(m:Mem) (K:Nat->Prop),zze lv slot m K=K (freeK lv slot m)
 | [],_=>rfl
 | (j,o)::r,K=>by
  simp only [zze,freeK]
  cases h1:Nat.beq j.slot slot with
  | false=>
   have:j.slot≠slot:=fun hh=>by rw [hh,Nat.beq_refl] at h1;cases h1
   simp only [this,and_false,if_false]
   exact zrh lv slot r K
  | true=>
   cases h2:Nat.beq j.lv lv with
   | false=>
    have:j.lv≠lv:=fun hh=>by rw [hh,Nat.beq_refl] at h2;cases h2
    simp only [this,false_and,if_false]
    exact zrh lv slot r K
   | true=>simp only [Nat.eq_of_beq_eq_true h1,Nat.eq_of_beq_eq_true h2,and_self,if_true,zrh lv slot r]
def ybs (cx:Cx) (slot:Nat) (m:Mem) (K:Id->Prop):Prop:=zze cx.lv slot m fun n=>K ⟨cx.lv,slot,n⟩
theorem zi2 (cx:Cx) (slot:Nat) (m:Mem) (K:Id->Prop):ybs cx slot m K=K (newId cx slot m):=zrh _ _ _ _
def z62 (cx:Cx) (slot:Nat):List z57->Mem->(List V->Mem->Prop)->Prop
 | [],m,K=>K [] m
 | .z x::r,m,K=>z62 cx slot r m fun vs m'=>K (.d x::vs) m'
 | .own s::r,m,K=>ybs cx slot m fun i=>zts m i (.row s.wr s.t s.sz 0 []) fun m1=>z62 cx slot r m1 fun vs m'=>K (.ref i 0 0 0::vs) m'
theorem zu5 (cx:Cx) (slot:Nat):∀(l:List z57) (m:Mem) (K:List V->Mem->Prop),z62 cx slot l m K=K (zbd cx slot l m).1 (zbd cx slot l m).2
 | [],_,_=>rfl
 | .z x::r,m,K=>by simp only [z62,zbd,zu5 cx slot r]
 | .own s::r,m,K=>by simp only [z62,zbd,zi2,zdb,zu5 cx slot r]
mutual
def ze3 (any:Bool) (m:Mem):V->(D->Prop)->Prop
 | .d x,K=>K x
 | .cl n cs,K=>K (.list n cs)
 | .agg cs,K=>zri any m cs fun ds=>K (.agg ds)
 | .fn f [] [],K=>K (.fn f)
 | .ref o off len top,K=>zix m o fun x=>
  match x with
  | some (.row wr _ sz n xs)=>
   (match (!wr||any) with
   | true=>zez (n=top/\off+len<=n) (K (.list len (if off=0/\len=n then xs else win xs (off*sz) (len*sz))))
   | false=>False)
  | _=>False
 | _,_=>False
def zri (any:Bool) (m:Mem):List V->(List D->Prop)->Prop
 | [],K=>K []
 | v::r,K=>ze3 any m v fun d=>zri any m r fun ds=>K (d::ds)
end
mutual
theorem zls (any:Bool) (m:Mem):∀(v:V) (K:D->Prop),ze3 any m v K->∃d,freeze any m v=some d/\K d
 | .d x,K,h=>⟨x,rfl,h⟩
 | .agg cs,K,h=>by
  obtain⟨ds,h1,h2⟩:=zmg any m cs _ h
  exact⟨_,by simp only [freeze,h1];rfl,h2⟩
 | .ref o off len top,K,h=>by
  simp only [ze3,zcm] at h
  simp only [freeze]
  cases hl:look m o with
  | none=>rw [hl] at h;exact h.elim
  | some x=>
   rw [hl] at h
   cases x with
   | row wr t sz n xs=>
    simp only at h ⊢
    split at h
    ·rename_i hw
     have hc:(wr=false\/any=true)/\n=top/\off+len<=n:=⟨by cases wr<;>simp_all,h.need⟩
     exact⟨_,if_pos hc,h.go⟩
    ·exact h.elim
   | _=>exact h.elim
 | .tup _,_,h=>(by simp only [ze3] at h)
 | .ptr ..,_,h=>(by simp only [ze3] at h)
 | .lptr ..,_,h=>(by simp only [ze3] at h)
 | .cl n cs,K,h=>⟨_,rfl,h⟩
 | .fn f [] [],K,h=>⟨_,rfl,h⟩
 | .fn _ (_::_) _,_,h=>(by simp only [ze3] at h)
 | .fn _ [] (_::_),_,h=>(by simp only [ze3] at h)
 | .yld _,_,h=>(by simp only [ze3] at h)
 | .mp _,_,h=>(by simp only [ze3] at h)
 | .it _,_,h=>(by simp only [ze3] at h)
 | .skip,_,h=>(by simp only [ze3] at h)
 | .undef,_,h=>(by simp only [ze3] at h)
theorem zmg (any:Bool) (m:Mem):∀(vs:List V) (K:List D->Prop),zri any m vs K->∃ds,zdf any m vs=some ds/\K ds
 | [],K,h=>⟨[],rfl,h⟩
 | v::r,K,h=>by
  obtain⟨d,h1,h2⟩:=zls any m v _ h
  obtain⟨ds,h3,h4⟩:=zmg any m r _ h2
  exact⟨d::ds,by simp only [zdf,h1,h3],h4⟩
end
def ylf:List D->(List V->Prop)->Prop
 | [],K=>K []
 | x::r,K=>ylf r fun vs=>K (.d x::vs)
theorem z0o:∀(l:List D) (K:List V->Prop),ylf l K=K (asV l)
 | [],_=>rfl
 | x::r,K=>by simp only [ylf,asV,z0o r]
def yga (m:Mem) (v:V) (K:V->Prop):Prop:=
 match v with
 | .tup vs=>zri true m vs fun xs=>ylf xs fun ys=>K (.tup ys)
 | v=>ze3 true m v fun d=>K (.d d)
theorem yaw (m:Mem) (v:V) (K:V->Prop) (h:yga m v K):∃r,thaw m v=some r/\K r:=by
 have simple:∀v:V,(∀vs,v≠ .tup vs)->ze3 true m v (fun d=>K (.d d))->∃r,thaw m v=some r/\K r:=by
  intro v hv h
  obtain⟨d,h1,h2⟩:=zls true m v _ h
  refine⟨.d d,?_,h2⟩
  unfold thaw
  split
  ·rename_i vs;exact absurd rfl (hv vs)
  ·rw [h1];rfl
 cases v with
 | tup vs=>
  obtain⟨xs,h1,h2⟩:=zmg true m vs _ h
  rw [z0o] at h2
  exact⟨_,by simp only [thaw,h1];rfl,h2⟩
 | _=>exact simple _ (by intro vs hh;cases hh) h
def ygu:List V->(Option (List D)->Prop)->Prop
 | [],K=>K (some [])
 | .d x::r,K=>ygu r fun o=>
  match o with
  | some ds=>K (some (x::ds))
  | none=>K none
 | _::_,K=>K none
theorem z8p:∀(l:List V) (K:Option (List D)->Prop),ygu l K=K (zo0 l)
 | [],_=>rfl
 | v::r,K=>by
  cases v with
  | d x=>simp only [ygu,zo0,z8p r];cases zo0 r<;>rfl
  | _=>rfl
def ymz (cs:List V) (K:V->Prop):Prop:=ygu cs fun o=>
 match o with
 | some ds=>K (.d (.agg ds))
 | none=>K (.agg cs)
theorem ycx (cs:List V) (K:V->Prop):ymz cs K=K (z7b cs):=by
 simp only [ymz,z8p,z7b]
 cases zo0 cs<;>rfl
def z3c (v:V) (K:List V->Prop):Prop:=
 match v with
 | .d (.agg cs)=>ylf cs K
 | .agg cs=>K cs
 | .tup _=>False
 | .skip=>False
 | .undef=>False
 | v=>K [v]
theorem zwi (v:V) (K:List V->Prop) (h:z3c v K):∃cs,cellsOf v=some cs/\K cs:=by
 cases v with
 | d x=>
  cases x with
  | agg cs=>simp only [z3c,z0o] at h;exact⟨_,rfl,h⟩
  | _=>exact⟨_,rfl,h⟩
 | tup _=>exact h.elim
 | skip=>exact h.elim
 | undef=>exact h.elim
 | _=>exact⟨_,rfl,h⟩
def over {α:Type}:List α->Nat->List α->List α
 | cs,0,[]=>cs
 | _::cs,0,x::xs=>x::over cs 0 xs
 | c::cs,n+1,xs=>c::over cs n xs
 | [],_,_=>[]
theorem z4s {α:Type}:∀(cs xs:List α),xs.length<=cs.length->over cs 0 xs=xs++cs.drop xs.length
 | cs,[],_=>by simp [over]
 | [],x::xs,h=>by simp at h
 | c::cs,x::xs,h=>by
  simp only [over,z4s cs xs (by simpa using h)]
  simp
theorem z7n {α:Type}:∀(cs:List α) (off:Nat) (xs:List α),off+xs.length<=cs.length->over cs off xs=patch cs off xs
 | cs,0,xs,h=>by
  rw [z4s cs xs (by omega)]
  simp [patch]
 | [],n+1,xs,h=>by simp at h
 | c::cs,n+1,xs,h=>by
  simp only [over,z7n cs n xs (by simp at h;omega),patch]
  simp [Nat.add_right_comm]
def zyp {α:Type}:List α->Nat->List α->(List α->Prop)->Prop
 | cs,0,[],K=>K cs
 | _::cs,0,x::xs,K=>zyp cs 0 xs fun r=>K (x::r)
 | c::cs,n+1,xs,K=>zyp cs n xs fun r=>K (c::r)
 | [],_,_,K=>K []
theorem zvb {α:Type}:∀(cs:List α) (off:Nat) (xs:List α) (K:List α->Prop),zyp cs off xs K=K (over cs off xs)
 | cs,0,[],K=>by simp only [zyp,over]
 | [],0,x::xs,K=>by simp only [zyp,over]
 | c::cs,0,x::xs,K=>by simp only [zyp,over,zvb cs 0 xs]
 | [],n+1,xs,K=>by simp only [zyp,over]
 | c::cs,n+1,xs,K=>by simp only [zyp,over,zvb cs n xs]
def yjx (cs:List V):List (Nat×Nat×V)->(List V->Prop)->Prop
 | [],K=>K cs
 | (off,n,v)::r,K=>z3c v fun xs=>
  match Nat.beq xs.length n with
  | true=>(match Nat.ble (off+n) cs.length with
   | true=>zyp cs off xs fun cs'=>yjx cs' r K
   | false=>False)
  | false=>False
theorem z9a:∀(l:List (Nat×Nat×V)) (cs:List V) (K:List V->Prop),yjx cs l K->∃cs',z3x cs l=some cs'/\K cs'
 | [],cs,K,h=>⟨cs,rfl,h⟩
 | (off,n,v)::r,cs,K,h=>by
  obtain⟨xs,h1,h2⟩:=zwi v _ h
  split at h2
  ·rename_i e1
   split at h2
   ·rename_i e2
    have e1':=Nat.eq_of_beq_eq_true e1
    have e2':=Nat.le_of_ble_eq_true e2
    rw [zvb] at h2
    obtain⟨cs',h3,h4⟩:=z9a r _ K h2
    refine⟨cs',?_,h4⟩
    simp only [z3x,h1]
    rw [if_pos ⟨e1',e2'⟩,<-z7n cs off xs (by omega)]
    exact h3
   ·exact h2.elim
  ·exact h2.elim
def z97 (e:Env):List (Nat×Nat×Opd)->(List (Nat×Nat×V)->Prop)->Prop
 | [],K=>K []
 | (a,b,x)::r,K=>opK e x fun v=>z97 e r fun l=>K ((a,b,v)::l)
theorem z4t (e:Env):∀(l:List (Nat×Nat×Opd)) (K:List (Nat×Nat×V)->Prop),z97 e l K=K (zry e l)
 | [],_=>rfl
 | (a,b,x)::r,K=>by simp only [z97,zry,zbo,z4t e r]
def z6k (m:Mem) (v:V) (K:List D->Prop):Prop:=ze3 false m v fun d=>
 match d with
 | .agg cs=>K cs
 | x=>K [x]
theorem zy5 (m:Mem) (v:V) (K:List D->Prop) (h:z6k m v K):∃cs,zmw m v=some cs/\K cs:=by
 obtain⟨d,h1,h2⟩:=zls false m v _ h
 unfold zmw
 rw [h1]
 cases d<;>exact⟨_,rfl,h2⟩
def z4d (sz:Nat) (m:Mem):List V->(List D->Prop)->Prop
 | [],K=>K []
 | v::r,K=>z6k m v fun x=>match Nat.beq x.length sz with
  | true=>z4d sz m r fun xs=>K (x++xs)
  | false=>False
theorem zrp (sz:Nat) (m:Mem):∀(l:List V) (K:List D->Prop),z4d sz m l K->∃ds,zm9 sz m l=some ds/\K ds
 | [],K,h=>⟨[],rfl,h⟩
 | v::r,K,h=>by
  obtain⟨x,h1,h2⟩:=zy5 m v _ h
  split at h2
  ·rename_i e
   obtain⟨xs,h3,h4⟩:=zrp sz m r _ h2
   refine⟨x++xs,?_,h4⟩
   simp only [zm9,h1,h3,if_pos (Nat.eq_of_beq_eq_true e)]
  ·exact h2.elim
structure zjw (n:Nat) (l h:Int) (K:Nat->Nat->Prop):Prop where
 ok:0<=h/\h<=n/\0<=l/\l<=h
 go:K l.toNat h.toNat
def zst (n:Nat) (lo hi:Option V) (K:Nat->Nat->Prop):Prop:=
 match lo,hi with
 | none,none=>K 0 n
 | some (.d (.int _ l)),none=>zjw n l n K
 | none,some (.d (.int _ h))=>zjw n 0 h K
 | some (.d (.int _ l)),some (.d (.int _ h))=>zjw n l h K
 | _,_=>False
theorem zof (n:Nat) (lo hi:Option V) (K:Nat->Nat->Prop) (h:zst n lo hi K):∃p,zb3 n lo hi=some p/\K p.1 p.2:=by
 unfold zst at h
 split at h
 ·refine⟨(0,n),?_,h⟩
  simp [zb3]
 ·rename_i k l
  refine⟨(l.toNat,(n:Int).toNat),?_,h.go⟩
  simp only [zb3,asI]
  exact if_pos h.ok
 ·rename_i k l
  refine⟨((0:Int).toNat,l.toNat),?_,h.go⟩
  simp only [zb3,asI]
  exact if_pos h.ok
 ·rename_i k l k' l'
  refine⟨(l.toNat,l'.toNat),?_,h.go⟩
  simp only [zb3,asI]
  exact if_pos h.ok
 ·exact h.elim
def yey (n:Option Nat) (cs:List V) (off:Nat) (K:V->Prop):Prop:=
 match n with
 | none=>ya0 cs off K
 | some n=>zez (off+n<=cs.length) (ymz (win cs off n) K)
theorem z4w (n:Option Nat) (cs:List V) (off:Nat) (K:V->Prop) (h:yey n cs off K):∃v,ybu n cs off=some v/\K v:=by
 cases n with
 | none=>obtain⟨d,h1,h2⟩:=h.got;exact⟨d,h1,h2⟩
 | some n=>obtain⟨h1,h2⟩:=h;rw [ycx] at h2;exact⟨_,if_pos h1,h2⟩
def z4v (n:Option Nat) (cs:List D) (off:Nat) (K:V->Prop):Prop:=
 match n with
 | none=>zgz cs off fun d=>K (.d d)
 | some n=>zf8 cs off n fun ds=>K (.d (.agg ds))
theorem zr0 (n:Option Nat) (cs:List D) (off:Nat) (K:V->Prop) (h:z4v n cs off K):∃v,zyq n cs off=some v/\K v:=by
 cases n with
 | none=>obtain⟨d,h1,h2⟩:=h.got;exact⟨_,by simp only [zyq,h1];rfl,h2⟩
 | some n=>obtain⟨h1,h2⟩:=h;exact⟨_,if_pos h1,h2⟩
def yhd (n:Option Nat) (m:Mem) (a:V) (K:V->Prop):Prop:=
 match a with
 | .lptr cs off=>z4v n cs off K
 | .ptr o off top=>zix m o fun x=>
  match x with
  | some (.cells _ cs)=>yey n cs off K
  | some (.row _ _ _ l xs)=>zez (l=top) (z4v n xs off K)
  | _=>False
 | _=>False
theorem z9x (n:Option Nat) (m:Mem) (a:V) (K:V->Prop) (h:yhd n m a K):∃v,zxb n m a=some v/\K v:=by
 unfold yhd at h
 split at h
 ·exact zr0 _ _ _ _ h
 ·rename_i o off top
  rw [zcm] at h
  simp only [zxb]
  split at h
  ·rename_i hl;rw [hl];exact z4w _ _ _ _ h
  ·rename_i hl;rw [hl]
   obtain⟨v,h1,h2⟩:=zr0 _ _ _ _ h.go
   exact⟨v,(if_pos h.need).trans h1,h2⟩
  ·exact h.elim
 ·exact h.elim
def yas (n:Nat) (m:Mem) (a x:V) (K:Mem->Prop):Prop:=
 match a with
 | .ptr o off top=>zix m o fun y=>
  match y with
  | some (.cells t cs)=>z3c x fun xs=>zez (xs.length=n/\off+n<=cs.length) (zyp cs off xs fun cs'=>zts m o (.cells t cs') K)
  | some (.row true t sz l xs)=>z6k m x fun ds=>zez (ds.length=n/\off+n<=xs.length/\l=top) (zts m o (.row true t sz l (patch xs off ds)) K)
  | _=>False
 | _=>False
theorem z5p (n:Nat) (m:Mem) (a x:V) (K:Mem->Prop) (h:yas n m a x K):∃m',zse n m a x=some m'/\K m':=by
 unfold yas at h
 split at h
 ·rename_i o off top
  rw [zcm] at h
  simp only [zse]
  split at h
  ·rename_i hl;rw [hl]
   obtain⟨xs,h1,h2,h3⟩:=zwi x _ h
   rw [zvb,zdb,z7n _ _ _ (by omega)] at h3
   simp only [h1]
   exact⟨_,if_pos h2,h3⟩
  ·rename_i hl;rw [hl]
   obtain⟨ds,h1,h2,h3⟩:=zy5 m x _ h
   rw [zdb] at h3
   simp only [h1]
   exact⟨_,if_pos h2,h3⟩
  ·exact h.elim
 ·exact h.elim
def yfr (sz:Nat) (m:Mem) (x:V) (lo hi mx:Option V) (K:V->Prop):Prop:=
 match x with
 | .d (.list n cs)=>zst n lo hi fun l h=>
  match mx with
  | none=>K (.d (.list (h-l) (win cs (l*sz) ((h-l)*sz))))
  | some _=>zez (hi.isSome/\mx.bind asI=hi.bind asI) (K (.d (.list (h-l) (win cs (l*sz) ((h-l)*sz)))))
 | .ref o off len top=>zix m o fun y=>
  match y with
  | some (.row wr _ sz' n xs)=>zez (n=top/\off+len<=n/\sz'=sz) (zst len lo hi fun l h=>
   match mx with
   | none=>(match wr with
    | true=>K (.ref o (off+l) (h-l) top)
    | false=>K (.d (.list (h-l) (win xs ((off+l)*sz) ((h-l)*sz)))))
   | some _=>False)
  | _=>False
 | .d .nil=>zst 0 lo hi fun _ _=>
  match mx with
  | none=>K (.d .nil)
  | some _=>False
 | _=>False
theorem yfs (sz:Nat) (m:Mem) (x:V) (lo hi mx:Option V) (K:V->Prop) (h:yfr sz m x lo hi mx K):∃v,zpo sz m x lo hi mx=some v/\K v:=by
 unfold yfr at h
 split at h
 ·obtain⟨p,h1,h2⟩:=zof _ _ _ _ h
  obtain⟨l,hh⟩:=p
  simp only [zpo,h1]
  cases mx with
  | none=>exact⟨_,if_pos (Or.inl rfl),h2⟩
  | some y=>exact⟨_,if_pos (Or.inr h2.need),h2.go⟩
 ·rename_i o off len top
  rw [zcm] at h
  simp only [zpo]
  split at h
  ·rename_i wr t1 sz1 n1 xs1 hl;rw [hl]
   obtain⟨h0,h⟩:=h
   obtain⟨p,h1,h2⟩:=zof _ _ _ _ h
   obtain⟨l,hh⟩:=p
   simp only [if_pos h0,h1]
   cases mx with
   | none=>
    cases wr with
    | true=>exact⟨_,by simp,h2⟩
    | false=>exact⟨_,by simp,h2⟩
   | some y=>exact h2.elim
  ·exact h.elim
 ·obtain⟨p,h1,h2⟩:=zof _ _ _ _ h
  simp only [zpo,h1]
  cases mx with
  | none=>exact⟨_,if_pos rfl,h2⟩
  | some y=>exact h2.elim
 ·exact h.elim
def z1j (sz:Nat) (m:Mem) (x i:V) (K:V->Prop):Prop:=
 match i with
 | .d (.int _ i)=>
  (match x with
  | .d (.list n cs)=>zez (0<=i/\i<n) (K (.lptr cs (i.toNat*sz)))
  | .ref o off len top=>zix m o fun y=>
   match y with
   | some (.row _ _ sz' n _)=>zez (0<=i/\i<len/\n=top/\off+len<=n/\sz'=sz) (K (.ptr o ((off+i.toNat)*sz) top))
   | _=>False
  | _=>False)
 | _=>False
theorem z60 (sz:Nat) (m:Mem) (x i:V) (K:V->Prop) (h:z1j sz m x i K):∃v,zjm sz m x i=some v/\K v:=by
 unfold z1j at h
 split at h
 ·split at h
  ·exact⟨_,if_pos h.need,h.go⟩
  ·rw [zcm] at h
   split at h
   ·rename_i hl;simp only [zjm,asI,hl];exact⟨_,if_pos h.need,h.go⟩
   ·exact h.elim
  ·exact h.elim
 ·exact h.elim
def yhg (off:Nat) (m:Mem) (v:V) (K:V->Prop):Prop:=
 match v with
 | .lptr cs b=>K (.lptr cs (b+off))
 | .ptr o b top=>zix m o fun x=>
  match x with
  | some (.cells ..)=>K (.ptr o (b+off) top)
  | some (.row _ _ _ n _)=>zez (n=top) (K (.ptr o (b+off) top))
  | _=>False
 | _=>False
theorem z92 (off:Nat) (m:Mem) (v:V) (K:V->Prop) (h:yhg off m v K):∃r,zer off m v=some r/\K r:=by
 unfold yhg at h
 split at h
 ·exact⟨_,rfl,h⟩
 ·rw [zcm] at h
  split at h
  ·rename_i hl;exact⟨_,by simp only [zer,z2r,hl];rfl,h⟩
  ·rename_i hl;exact⟨_,by simp only [zer,z2r,hl,h.need];simp,h.go⟩
  ·exact h.elim
 ·exact h.elim
def ykm (n:Option Nat) (x:V) (off:Nat) (K:V->Prop):Prop:=
 match x with
 | .d (.agg cs)=>z4v n cs off K
 | .agg cs=>yey n cs off K
 | _=>False
theorem yhl (n:Option Nat) (x:V) (off:Nat) (K:V->Prop) (h:ykm n x off K):∃r,yew n x off=some r/\K r:=by
 unfold ykm at h
 split at h
 ·exact zr0 _ _ _ _ h
 ·exact z4w _ _ _ _ h
 ·exact h.elim
def ynm (m:Mem) (k:Kd) (v:V) (K:Nat->Prop):Prop:=
 match k with
 | .str=>(match v with
  | .d (.str s)=>K s.length
  | _=>False)
 | .slc=>(match v with
  | .d (.list n _)=>K n
  | .d .nil=>K 0
  | .cl n _=>K n
  | .ref o _ len top=>zix m o fun x=>
   match x with
   | some (.row _ _ _ n _)=>zez (n=top) (K len)
   | _=>False
  | _=>False)
 | .map=>(match v with
  | .mp o=>zix m o fun x=>
   match x with
   | some (.map es)=>K es.length
   | _=>False
  | _=>False)
 | .cap=>(match v with
  | .d .nil=>K 0
  | _=>False)
theorem yj7 (m:Mem) (k:Kd) (v:V) (K:Nat->Prop) (h:ynm m k v K):∃n,ycs m k v=some n/\K n:=by
 unfold ynm at h
 split at h
 ·split at h
  ·exact⟨_,rfl,h⟩
  ·exact h.elim
 ·split at h
  ·exact⟨_,rfl,h⟩
  ·exact⟨_,rfl,h⟩
  ·exact⟨_,rfl,h⟩
  ·rw [zcm] at h
   split at h
   ·rename_i hl;exact⟨_,by simp only [ycs,hl];exact if_pos h.need,h.go⟩
   ·exact h.elim
  ·exact h.elim
 ·split at h
  ·rw [zcm] at h
   split at h
   ·rename_i hl;exact⟨_,by simp only [ycs,hl],h⟩
   ·exact h.elim
  ·exact h.elim
 ·split at h
  ·exact⟨_,rfl,h⟩
  ·exact h.elim
def z3u (m:Mem) (v:V) (K:Nat->List D->Prop):Prop:=
 match v with
 | .d (.list n cs)=>K n cs
 | .d .nil=>K 0 []
 | .ref o off len top=>zix m o fun x=>
  match x with
  | some (.row _ _ sz n xs)=>zez (n=top/\off+len<=n) (K len (if off=0/\len=n then xs else win xs (off*sz) (len*sz)))
  | _=>False
 | _=>False
theorem zwp (m:Mem) (v:V) (K:Nat->List D->Prop) (h:z3u m v K):∃p,zwo m v=some p/\K p.1 p.2:=by
 unfold z3u at h
 split at h
 ·exact⟨_,rfl,h⟩
 ·exact⟨_,rfl,h⟩
 ·rw [zcm] at h
  split at h
  ·rename_i hl;exact⟨_,by simp only [zwo,hl];exact if_pos h.need,h.go⟩
  ·exact h.elim
 ·exact h.elim
def zqv (cx:Cx) (slot:Nat) (r:zca) (m:Mem) (k:Nat) (ds:List D) (s:V) (K:V->Mem->Prop):Prop:=
 match s with
 | .ref o off len top=>zix m o fun x=>
  match x with
  | some (.row wr t sz n xs)=>
   zez (off=0/\len=n/\n=top/\t=r.t/\sz=r.sz/\ds.length=k*sz/\(n+k)*r.by_<=140737488355328/\n+k<=140737488355328)
    (zts m o (.row wr t sz (n+k) (xs++ds)) fun m'=>K (.ref o 0 (n+k) (n+k)) m')
  | _=>False
 | .d .nil=>zez (k≠0/\ds.length=k*r.sz/\k*r.by_<=140737488355328/\k<=140737488355328) (ybs cx slot m fun i=>zts m i (.row r.wr r.t r.sz k ds) fun m'=>K (.ref i 0 k k) m')
 | .cl n cs=>zez (k≠0/\ds.length=k*r.sz/\cs.length=n*r.sz/\(n+k)*r.by_<=140737488355328/\n+k<=140737488355328) (ybs cx slot m fun i=>zts m i (.row r.wr r.t r.sz (n+k) (cs++ds)) fun m'=>K (.ref i 0 (n+k) (n+k)) m')
 | _=>False
theorem zpq (cx:Cx) (slot:Nat) (r:zca) (m:Mem) (k:Nat) (ds:List D) (s:V) (K:V->Mem->Prop) (h:zqv cx slot r m k ds s K):
  ∃p,zk2 cx slot r m (some (k,ds)) s=some p/\K p.1 p.2:=by
 unfold zqv at h
 split at h
 ·rw [zcm] at h
  split at h
  ·rename_i hl
   obtain⟨⟨h1,h2,h3,h4,h5,h6,h7,h8⟩,h9⟩:=h
   rw [zdb] at h9
   refine⟨(_,_),?_,h9⟩
   simp only [zk2,hl]
   exact if_pos ⟨h1,h2,h3,h4,h5,h6,by simp [zr5,h7,h8]⟩
  ·exact h.elim
 ·obtain⟨⟨h1,h2,h3,h4⟩,h9⟩:=h
  rw [zi2,zdb] at h9
  refine⟨(_,_),?_,h9⟩
  simp only [zk2]
  exact if_pos ⟨h1,h2,by simp [zr5,h3,h4]⟩
 ·obtain⟨⟨h1,h2,h0,h3,h4⟩,h9⟩:=h
  rw [zi2,zdb] at h9
  refine⟨(_,_),?_,h9⟩
  simp only [zk2]
  exact if_pos ⟨h1,h2,h0,by simp [zr5,h3,h4]⟩
 ·exact h.elim
def eqB:D->D->(Prop->Prop)->Prop
 | .int k a,.int l b,K=>(match decide (k=l) with
  | true=>K (a=b)
  | false=>False)
 | .bool a,.bool b,K=>K (a=b)
 | .str a,.str b,K=>K (a=b)
 | _,_,_=>False
def yju:List D->List D->(Prop->Prop)->Prop
 | [],[],K=>K True
 | [x],[y],K=>eqB x y K
 | x::x2::r,y::y2::s,K=>eqB x y fun p=>yju (x2::r) (y2::s) fun q=>K (p/\q)
 | _,_,_=>False
theorem yis (x y:D) (K:Prop->Prop) (h:eqB x y K):∃b p,eqD x y=some b/\(b=true↔p)/\K p:=by
 unfold eqB at h
 split at h
 ·split at h
  ·rename_i a _ b _ e
   exact⟨decide (a=b),a=b,by simp only [eqD];exact if_pos (of_decide_eq_true e),by simp,h⟩
  ·exact h.elim
 ·rename_i a b
  exact⟨a==b,a=b,rfl,by simp,h⟩
 ·rename_i a b
  exact⟨a==b,a=b,rfl,by simp,h⟩
 ·exact h.elim
theorem ydk:∀(xs ys:List D) (K:Prop->Prop),yju xs ys K->∃b p,eqL xs ys=some b/\(b=true↔p)/\K p
 | [],[],_,h=>⟨true,True,rfl,by simp,h⟩
 | [x],[y],K,h=>by
  obtain⟨a,p,h1,h2,h3⟩:=yis x y _ h
  exact⟨a&&true,p,by simp only [eqL,h1],by simpa using h2,h3⟩
 | x::x2::r,y::y2::s,K,h=>by
  obtain⟨a,p,h1,h2,h3⟩:=yis x y _ h
  obtain⟨b,q,h4,h5,h6⟩:=ydk (x2::r) (y2::s) _ h3
  refine⟨a&&b,p/\q,?_,by simp [h2,h5],h6⟩
  rw [eqL,h1,h4]
 | [],_::_,_,h=>(by simp only [yju] at h)
 | _::_,[],_,h=>(by simp only [yju] at h)
 | [_],_::_::_,_,h=>(by simp only [yju] at h)
 | _::_::_,[_],_,h=>(by simp only [yju] at h)
def yni (ks:Option (List KK)) (x y:V) (K:Bool->Prop):Prop:=
 match ks with
 | none=>
  (match x,y with
  | .d (.bool a),.d (.bool b)=>K (a==b)
  | _,_=>False)
 | some ks=>
  (match x,y with
  | .d (.agg a),.d (.agg b)=>
   (match zb0 ks a&&zb0 ks b with
   | true=>yju a b fun p=>Cmp p (K true) (K false)
   | false=>False)
  | _,_=>False)
theorem yjv (ks:Option (List KK)) (x y:V) (K:Bool->Prop) (h:yni ks x y K):∃b,eqV ks x y=some b/\K b:=by
 unfold yni at h
 split at h
 ·split at h
  ·exact⟨_,rfl,h⟩
  ·exact h.elim
 ·split at h
  ·split at h
   ·rename_i hk
    obtain⟨b,p,h1,h2,h3⟩:=ydk _ _ _ h
    refine⟨b,by simp only [eqV];rw [if_pos hk];exact h1,?_⟩
    cases b with
    | true=>exact h3.yes (h2.1 rfl)
    | false=>exact h3.no fun hp=>Bool.noConfusion (h2.2 hp)
   ·exact h.elim
  ·exact h.elim
def yjo (p:Prop) (K:D->Prop):Prop:=Cmp p (K (.bool true)) (K (.bool false))
theorem ydc {p:Prop} [Decidable p] {K:D->Prop} (h:yjo p K):K (.bool (decide p)):=by
 by_cases hp:p
 ·have:=h.yes hp;simpa [hp] using this
 ·have:=h.no hp;simpa [hp] using this
def ykd (p:Prop) (K:D->Prop):Prop:=Cmp p (K (.bool false)) (K (.bool true))
theorem z95 {p:Prop} [Decidable p] {K:D->Prop} (h:ykd p K):K (.bool (!decide p)):=by
 by_cases hp:p
 ·have:=h.yes hp;simpa [hp] using this
 ·have:=h.no hp;simpa [hp] using this
def z6g (op:BinOp) (k:IntKind) (a b:Int) (K:D->Prop):Prop:=
 match op with
 | .add=>Wr k (a+b) fun n=>K (.int k n)
 | .sub=>Wr k (a-b) fun n=>K (.int k n)
 | .mul=>Wr k (a*b) fun n=>K (.int k n)
 | .quo=>Quo k a b fun n=>K (.int k n)
 | .rem=>Rem a b fun n=>K (.int k n)
 | .and=>K (.int k (k.wrap ((BitVec.ofInt k.bits a&&&BitVec.ofInt k.bits b).toNat)))
 | .or=>K (.int k (k.wrap ((BitVec.ofInt k.bits a|||BitVec.ofInt k.bits b).toNat)))
 | .xor=>K (.int k (k.wrap ((BitVec.ofInt k.bits a^^^BitVec.ofInt k.bits b).toNat)))
 | .andNot=>K (.int k (k.wrap ((BitVec.ofInt k.bits a&&&~~~ BitVec.ofInt k.bits b).toNat)))
 | .eql=>yjo (a=b) K
 | .neq=>ykd (a=b) K
 | .lss=>yjo (a<b) K
 | .leq=>yjo (a<=b) K
 | .gtr=>yjo (b<a) K
 | .geq=>yjo (b<=a) K
 | _=>False
theorem ya6 (op:BinOp) (k:IntKind) (a b:Int) (K:D->Prop) (h:z6g op k a b K):∃d,zv0 op k a b=some d/\K d:=by
 cases op<;>simp only [z6g] at h<;>simp only [zv0]
 all_goals first
  | exact⟨_,rfl,h.go⟩
  | exact⟨_,if_neg h.ne,h.go⟩
  | exact⟨_,rfl,h⟩
  | exact⟨_,rfl,ydc h⟩
  | exact⟨_,rfl,z95 h⟩
def z6h (op:BinOp) (a b:List UInt8) (K:D->Prop):Prop:=
 match op with
 | .add=>zez (a.length+b.length<=z90) (K (.str (a++b)))
 | .eql=>yjo (a=b) K
 | .neq=>ykd (a=b) K
 | .lss=>K (.bool (zag a b))
 | .leq=>K (.bool (zag a b||a==b))
 | .gtr=>K (.bool (!(zag a b||a==b)))
 | .geq=>K (.bool (!zag a b))
 | _=>False
theorem ya7 (op:BinOp) (a b:List UInt8) (K:D->Prop) (h:z6h op a b K):∃d,zy3 op a b=some d/\K d:=by
 have hb:(a==b)=decide (a=b):=by by_cases e:a=b<;>simp [e]
 cases op<;>simp only [z6h] at h<;>simp only [zy3]
 all_goals first
  | exact⟨_,if_pos h.need,h.go⟩
  | exact⟨_,rfl,by rw [hb];exact ydc h⟩
  | exact⟨_,rfl,by rw [hb];exact z95 h⟩
  | exact⟨_,rfl,h⟩
def yne (op:BinOp) (x y:V) (K:D->Prop):Prop:=
 match x,y with
 | .d (.int k a),.d (.int l b)=>
  (match op with
  | .shl=>zez (0<=b) (Wr k (a*2^(min b.toNat k.bits)) fun n=>K (.int k n))
  | .shr=>zez (0<=b) (K (.int k (a.fdiv (2^(min b.toNat k.bits)))))
  | _=>(match decide (k=l) with
   | true=>z6g op k a b K
   | false=>False))
 | .d (.str a),.d (.str b)=>z6h op a b K
 | _,_=>False
theorem yjj (op:BinOp) (x y:V) (K:D->Prop) (h:yne op x y K):∃d,ylg op x y=some d/\K d:=by
 unfold yne at h
 split at h
 ·simp only [ylg]
  split at h
  ·exact⟨_,if_pos h.need,h.go.go⟩
  ·exact⟨_,if_pos h.need,h.go⟩
  ·rename_i n1 n2
   split at h
   ·rename_i e
    obtain⟨d,h1,h2⟩:=ya6 _ _ _ _ _ h
    refine⟨d,?_,h2⟩
    cases op<;>first |exact(if_pos (of_decide_eq_true e)).trans h1|exact absurd rfl n1|exact absurd rfl n2
   ·exact h.elim
 ·exact ya7 _ _ _ _ h
 ·exact h.elim
def zrq (mx:Bool) (k:IntKind):Int->List V->(D->Prop)->Prop
 | a,[],K=>K (.int k a)
 | a,.d (.int _ b)::r,K=>
  (match mx with
  | true=>zrq mx k (if b>a then b else a) r K
  | false=>zrq mx k (if b<a then b else a) r K)
 | _,_::_,_=>False
def z7a (mx:Bool) (l:List V) (K:D->Prop):Prop:=
 match l with
 | .d (.int k a)::r=>zrq mx k a r K
 | _=>False
theorem zqi (mx:Bool) (k:IntKind):∀(l:List V) (a:Int) (K:D->Prop),zrq mx k a l K->∃d,zmi.go mx k a l=some d/\K d
 | [],a,K,h=>⟨.int k a,rfl,h⟩
 | v::r,a,K,h=>by
  unfold zrq at h
  split at h
  ·rename_i e;cases e
  ·rename_i _ _ _ a' b r' K' e
   obtain⟨rfl,rfl⟩:=(List.cons.injEq ..).mp e
   simp only [zmi.go]
   cases mx with
   | true=>exact zqi true k r _ _ h
   | false=>exact zqi false k r _ _ h
  ·exact h.elim
theorem ybp (mx:Bool) (l:List V) (K:D->Prop) (h:z7a mx l K):∃d,zmi mx l=some d/\K d:=by
 unfold z7a at h
 split at h
 ·exact zqi mx _ _ _ K h
 ·exact h.elim
end Go.Evl
namespace Go.Evl
def yj8 (nx:Nat):List Id->Bool
 | []=>true
 | i::r=>match Nat.blt i.lv nx with
  | true=>yj8 nx r
  | false=>false
theorem zxc (nx:Nat):∀(l:List Id),yj8 nx l=zhq nx l
 | []=>rfl
 | i::r=>by
  simp only [yj8]
  cases h:Nat.blt i.lv nx with
  | true=>
   have:i.lv<nx:=Nat.le_of_ble_eq_true h
   simp only [zxc nx r]
   simp [zhq,this]
  | false=>
   have:¬i.lv<nx:=fun hh=>by
    have:=Nat.ble_eq_true_of_le (show i.lv+1<=nx from hh)
    simp only [Nat.blt] at h
    rw [this] at h;cases h
   simp [zhq,this]
def z65:Mem->(List Id->Prop)->Prop
 | [],K=>K []
 | (i,_)::r,K=>z65 r fun l=>K (i::l)
theorem zrm:∀(m:Mem) (K:List Id->Prop),z65 m K=K (zhi m)
 | [],_=>rfl
 | (i,o)::r,K=>by simp only [z65,zrm r];rfl
def zy2 (nx:Nat):Mem->(Mem->Prop)->Prop
 | [],K=>K []
 | (i,o)::r,K=>match Nat.blt i.lv nx with
  | true=>zy2 nx r fun r'=>K ((i,o)::r')
  | false=>zy2 nx r K
theorem zq4 (nx:Nat):∀(m:Mem) (K:Mem->Prop),zy2 nx m K=K (zdr nx m)
 | [],_=>rfl
 | (i,o)::r,K=>by
  simp only [zy2]
  cases h:Nat.blt i.lv nx with
  | true=>
   have:i.lv<nx:=Nat.le_of_ble_eq_true h
   simp only [zq4 nx r]
   simp [zdr,this]
  | false=>
   have:¬i.lv<nx:=fun hh=>by
    have:=Nat.ble_eq_true_of_le (show i.lv+1<=nx from hh)
    simp only [Nat.blt] at h
    rw [this] at h;cases h
   simp only [zq4 nx r]
   simp [zdr,this]
def z6e (cx:Cx) (slot:Nat) (imm:Bool) (v:V) (m':Mem) (K:V->Mem->Prop):Prop:=zy2 cx.nx m' fun old=>
 match yj8 cx.nx (idsAll old) with
 | true=>(match imm with
  | true=>(match (ids v).all fun i=>Nat.ble cx.nx i.lv with
   | true=>yga m' v fun r=>K r old
   | false=>False)
  | false=>zsi (settle cx slot cx.nx old m' v) fun p=>K p.1 p.2)
 | false=>False
def callW (E:Oracle) (cx:Cx) (slot:Nat) (shared imm:Bool) (f:V) (args:List V) (m:Mem) (K:V->Mem->Prop):Prop:=
 match shared with
 | false=>(match f with
  | .fn f first caps=>zri false m (first ++args++caps) fun ds=>ylf ds fun vs=>
   (match imm with
   | true=>zaz E f vs fun v=>K v m
   | false=>zej E f vs cx slot m K)
  | _=>False)
 | true=>z65 m fun ks=>(match yj8 cx.nx ks with
  | true=>(match f with
   | .fn f first caps=>In E cx.nx f (first ++args++caps) m fun v m'=>z6e cx slot imm v m' K
   | .yld o=>Rnd E cx.nx o args m fun v m'=>z6e cx slot imm v m' K
   | _=>False)
  | false=>False)
section
variable {E : Oracle}
theorem z8u {cx:Cx} {slot:Nat} {imm:Bool} {v:V} {m':Mem} {K:V->Mem->Prop} (h:z6e cx slot imm v m' K):
  ∃p,(if zhq cx.nx (idsAll (zdr cx.nx m')) then zlh cx slot cx.nx imm (zdr cx.nx m') m' v else none)=some p/\K p.1 p.2:=by
 simp only [z6e,zq4,zxc] at h
 split at h
 ·rename_i hl
  rw [if_pos hl]
  split at h
  ·split at h
   ·rename_i ha
    obtain⟨r,h1,h2⟩:=yaw _ _ _ h
    refine⟨(r,zdr cx.nx m'),?_,h2⟩
    have ha':((ids v).all fun i=>decide (cx.nx<=i.lv))=true:=by
     rw [List.all_eq_true] at ha ⊢
     intro i hi
     simpa using Nat.le_of_ble_eq_true (ha i hi)
    simp only [zlh,if_true,ha',h1]
    rfl
   ·exact h.elim
  ·obtain⟨p,h1,h2⟩:=h.got
   exact⟨p,by simp only [zlh];exact h1,h2⟩
 ·exact h.elim
theorem callW_ok {cx:Cx} {slot:Nat} {shared imm:Bool} {f:V} {args:List V} {m:Mem} {K:V->Mem->Prop} (h:callW E cx slot shared imm f args m K):
  ∃p,zg6 E cx slot shared imm f args m=some p/\K p.1 p.2:=by
 unfold callW at h
 split at h
 ·split at h
  ·rename_i f first caps
   obtain⟨ds,h1,h2⟩:=zmg _ _ _ _ h
   rw [z0o] at h2
   simp only [zg6,h1]
   split at h2
   ·obtain⟨r,⟨v,m',h3,h4⟩,h5⟩:=h2.got
    refine⟨(r,m),?_,h5⟩
    have hall:((ids v).all fun i=>decide (0<=i.lv))=true:=by simp
    simp only [h3,zlh,hall,h4]
    rfl
   ·obtain⟨v,m',p,h3,h4,h5⟩:=h2.got
    refine⟨p,?_,h5⟩
    simp only [h3,zlh,h4]
    rfl
  ·exact h.elim
 ·simp only [zrm,zxc] at h
  split at h
  ·rename_i hl
   simp only [zg6,if_true,hl]
   split at h
   ·obtain⟨v,m',h1,h2⟩:=h.got
    simp only [zfr,h1]
    exact z8u h2
   ·obtain⟨v,m',h1,h2⟩:=h.got
    simp only [zfr,h1]
    exact z8u h2
   ·exact h.elim
  ·exact h.elim
structure ztt (key:D) (es:List (D×V)) (K:Option V->Prop):Prop where
 got:∃r,zfu key es=some r/\K r
structure ylr (key:D) (x:V) (es:List (D×V)) (K:List (D×V)->Prop):Prop where
 got:∃r,zmu key x es=some r/\K r
structure zpp (s:List UInt8) (pos:Nat) (some_:Int->Nat->Prop) (none_:Prop):Prop where
 yes:pos<s.length->some_ (Utf8.decode ⟨s.toArray⟩ pos).1 (Utf8.decode ⟨s.toArray⟩ pos).2
 no:¬pos<s.length->none_
def z68 (kk:KK) (zero:D) (ok:Bool) (m:Mem) (x key:V) (K:V->Prop):Prop:=
 match key with
 | .d key=>
  (match zfv kk key with
  | true=>(match x with
   | .mp o=>zix m o fun ob=>
    match ob with
    | some (.map es)=>ztt key es fun r=>K (yiy zero ok r)
    | _=>False
   | .d .nilm=>K (yiy zero ok none)
   | _=>False)
  | false=>False)
 | _=>False
theorem ybn {kk:KK} {zero:D} {ok:Bool} {m:Mem} {x key:V} {K:V->Prop} (h:z68 kk zero ok m x key K):∃v,zk9 kk zero ok m x key=some v/\K v:=by
 unfold z68 at h
 split at h
 ·split at h
  ·rename_i hk
   simp only [zk9,if_pos hk]
   split at h
   ·rw [zcm] at h
    split at h
    ·rename_i hl
     obtain⟨r,h1,h2⟩:=h.got
     exact⟨_,by simp only [hl,h1];rfl,h2⟩
    ·exact h.elim
   ·exact⟨_,rfl,h⟩
   ·exact h.elim
  ·exact h.elim
 ·exact h.elim
def yno (m:Mem) (x:V) (K:Nat->Bool->Prop):Prop:=
 match x with
 | .d .nilp=>K 0 true
 | .d .nilf=>K 4 true
 | .d .nili=>K 1 true
 | .d (.ifc true)=>K 1 false
 | .d .nilm=>K 3 true
 | .d (.fn _)=>K 4 false
 | .d (.list n _)=>zez (n≠0) (K 2 false)
 | .fn .. =>K 4 false
 | .lptr .. =>K 0 false
 | .ptr o _ top=>zix m o fun ob=>
  match ob with
  | some (.cells ..)=>K 0 false
  | some (.row _ _ _ n _)=>zez (n=top) (K 0 false)
  | _=>False
 | .ref o off len top=>zix m o fun ob=>
  match ob with
  | some (.row _ _ _ n _)=>zez (n=top/\off+len<=n/\len≠0) (K 2 false)
  | _=>False
 | _=>False
theorem yke {m:Mem} {x:V} {K:Nat->Bool->Prop} (h:yno m x K):∃k b,yeh m x=some (k,b)/\K k b:=by
 unfold yno at h
 split at h
 ·exact⟨_,_,rfl,h⟩
 ·exact⟨_,_,rfl,h⟩
 ·exact⟨_,_,rfl,h⟩
 ·exact⟨_,_,rfl,h⟩
 ·exact⟨_,_,rfl,h⟩
 ·exact⟨_,_,rfl,h⟩
 ·rename_i n cs
  cases n with
  | zero=>exact absurd rfl h.need
  | succ n=>exact⟨_,_,rfl,h.go⟩
 ·exact⟨_,_,rfl,h⟩
 ·exact⟨_,_,rfl,h⟩
 ·rw [zcm] at h
  split at h
  ·rename_i hl;exact⟨_,_,by simp only [yeh,z2r,hl];rfl,h⟩
  ·rename_i hl;exact⟨_,_,by simp [yeh,z2r,hl,h.need],h.go⟩
  ·exact h.elim
 ·rw [zcm] at h
  split at h
  ·rename_i hl;exact⟨_,_,by simp only [yeh,hl];exact if_pos h.need,h.go⟩
  ·exact h.elim
 ·exact h.elim
def z1u (kk:KK) (m:Mem) (x key v:V) (K:V->Mem->Prop):Prop:=
 match x,key with
 | .mp o,.d key=>zix m o fun ob=>
  (match ob with
  | some (.map es)=>(match zfv kk key&&(cellsOf v).isSome with
   | true=>ylr key v es fun es'=>zts m o (.map es') fun m'=>K .skip m'
   | false=>False)
  | _=>False)
 | _,_=>False
theorem zzs {kk:KK} {m:Mem} {x key v:V} {K:V->Mem->Prop} (h:z1u kk m x key v K):∃m',zf3 kk m x key v=some m'/\K .skip m':=by
 unfold z1u at h
 split at h
 ·rw [zcm] at h
  split at h
  ·rename_i hl
   split at h
   ·rename_i hb
    obtain⟨r,h1,h2⟩:=h.got
    rw [zdb] at h2
    exact⟨_,by simp only [zf3,hl,if_pos hb,h1];rfl,h2⟩
   ·exact h.elim
  ·exact h.elim
 ·exact h.elim
structure zlk (E:Oracle) (f:V) (args:List V) (m:Mem) (K:V->Prop):Prop where
 got:∃v,zrb E f args m=some v/\K v
structure ya1 (E:Oracle) (imm:Bool) (f:V) (args:List V) (m:Mem) (K:V->Mem->Prop):Prop where
 got:∃v m',ztu E imm f args m=some (v,m')/\K v m'
def zhj (E:Oracle) (cx:Cx) (slot:Nat) (e:Env) (m:Mem) (op:COp) (K:V->Mem->Prop):Prop:=
 match op with
 | .mv x=>opK e x fun v=>K v m
 | .ownNil r=>ybs cx slot m fun i=>zts m i (.row r.wr r.t r.sz 0 []) fun m'=>K (.ref i 0 0 0) m'
 | .pick c a b=>opK e c fun c=>
  match c with
  | .d (.bool t)=>Br t (opK e a fun v=>K v m) (opK e b fun v=>K v m)
  | _=>False
 | .alloc t cs=>z62 cx slot cs m fun vs m1=>ybs cx slot m1 fun i=>zts m1 i (.cells t vs) fun m2=>K (.ptr i 0 0) m2
 | .box t x=>opK e x fun v=>z3c v fun cs=>ybs cx slot m fun i=>zts m i (.cells t cs) fun m2=>K (.ptr i 0 0) m2
 | .build zero parts=>z62 cx slot zero m fun vs m1=>z97 e parts fun ps=>yjx vs ps fun cs=>ymz cs fun v=>K v m1
 | .mkList sz n parts=>z56 e parts fun vs=>z4d sz m vs fun ds=>K (.d (.list n ds)) m
 | .mkListD sz n parts=>z56 e parts fun vs=>Chk (yd2 vs) (z4d sz [] vs fun ds=>K (.d (.list n ds)) m)
 | .mkRow r n parts=>z56 e parts fun vs=>z4d r.sz m vs fun ds=>ybs cx slot m fun i=>zts m i (.row r.wr r.t r.sz n ds) fun m2=>K (.ref i 0 n n) m2
 | .load n a=>opK e a fun a=>yhd n m a fun v=>K v m
 | .store n a x=>opK e a fun a=>opK e x fun x=>yas n m a x fun m'=>K .skip m'
 | .nilCheck x=>opK e x fun v=>
  match v with
  | .fn f a b=>K (.fn f a b) m
  | .d (.fn f)=>K (.fn f [] []) m
  | .lptr cs o=>K (.lptr cs o) m
  | .ptr o off top=>zix m o fun ob=>
   match ob with
   | some (.cells ..)=>K (.ptr o off top) m
   | some (.row _ _ _ n _)=>zez (n=top) (K (.ptr o off top) m)
   | _=>False
  | _=>False
 | .bin op x y=>opK e x fun x=>opK e y fun y=>yne op x y fun d=>K (.d d) m
 | .eqv ks neg x y=>opK e x fun x=>opK e y fun y=>yni ks x y fun b=>
  match neg with
  | true=>K (.d (.bool (!b))) m
  | false=>K (.d (.bool b)) m
 | .un op x=>opK e x fun x=>
  match op,x with
  | .not,.d (.bool b)=>K (.d (.bool (!b))) m
  | .neg,.d (.int k n)=>Wr k (0-n) fun n=>K (.d (.int k n)) m
  | _,_=>False
 | .conv k x=>opK e x fun x=>
  match x with
  | .d (.int _ n)=>Wr k n fun n=>K (.d (.int k n)) m
  | _=>False
 | .mkFunc f first caps=>z56 e first fun a=>z56 e caps fun b=>K (.fn f a b) m
 | .makeRow r zero n=>opK e n fun n=>
  match n with
  | .d (.int _ n)=>zez (0<=n/\zero.length=r.sz/\n.toNat*r.by_<=140737488355328/\n.toNat<=140737488355328)
   (ybs cx slot m fun i=>zts m i (.row r.wr r.t r.sz n.toNat (List.replicate n.toNat zero).flatten) fun m'=>K (.ref i 0 n.toNat n.toNat) m')
  | _=>False
 | .sliceS x lo hi=>opK e x fun x=>opK? e lo fun lo=>opK? e hi fun hi=>
  match x with
  | .d (.str s)=>zst s.length lo hi fun l h=>K (.d (.str (win s l (h-l)))) m
  | _=>False
 | .slice sz x lo hi mx=>opK e x fun x=>opK? e lo fun lo=>opK? e hi fun hi=>opK? e mx fun mx=>yfr sz m x lo hi mx fun v=>K v m
 | .fieldAddr off x=>opK e x fun x=>yhg off m x fun v=>K v m
 | .field off n x=>opK e x fun x=>ykm n x off fun v=>K v m
 | .idxAddr sz x i=>opK e x fun x=>opK e i fun i=>z1j sz m x i fun v=>K v m
 | .idxAddrA len sz x i=>opK e x fun x=>opK e i fun i=>
  match i with
  | .d (.int _ i)=>zez (0<=i/\i<len) (yhg (i.toNat*sz) m x fun v=>K v m)
  | _=>False
 | .idxS x i=>opK e x fun x=>opK e i fun i=>
  match x,i with
  | .d (.str s),.d (.int _ i)=>zez (0<=i) (z59 s i.toNat fun b=>K (.d (.int .u8 b.toNat)) m)
  | _,_=>False
 | .mkMap=>ybs cx slot m fun i=>zts m i (.map []) fun m'=>K (.mp i) m'
 | .lookup kk zero ok x key=>opK e x fun x=>opK e key fun key=>z68 kk zero ok m x key fun v=>K v m
 | .mapSet kk x key v=>opK e x fun x=>opK e key fun key=>opK e v fun v=>z1u kk m x key v K
 | .mapSetR kk x key v rs=>opK e x fun x=>opK e key fun key=>opK e v fun v=>ybf e rs fun vs=>Chk (z8r x vs) (z1u kk m x key v K)
 | .callD f args=>opK e f fun f=>z56 e args fun vs=>
  match znc f with
  | .fn g [] []=>Chk (yd2 vs) (callW E cx slot false true (.fn g [] []) vs m K)
  | _=>False
 | .callQ f args=>opK e f fun f=>z56 e args fun vs=>zlk E (znc f) vs m fun v=>K v m
 | .callU imm f args=>opK e f fun f=>z56 e args fun vs=>ya1 E imm (znc f) vs m K
 | .callK imm f args=>opK e f fun f=>z56 e args fun vs=>callW E cx slot true imm (znc f) vs m fun v m'=>Chk (leM m m' m) (K v m)
 | .callN f args=>opK e f fun f=>z56 e args fun vs=>
  match znc f with
  | .fn g [] []=>Chk (yd2 vs) (callW E cx slot false false (.fn g [] []) vs m K)
  | _=>False
 | .nilEq kd neg x=>opK e x fun x=>yno m x fun k b=>Chk (Nat.beq k kd) (K (.d (.bool (if neg then !b else b))) m)
 | .loadD n a=>opK e a fun a=>
  match a with
  | .lptr cs off=>z4v n cs off fun v=>K v m
  | _=>False
 | .sliceC _ x hi mx=>opK e x fun x=>opK e hi fun hi=>opK e mx fun mx=>
  match x with
  | .d (.list n cs)=>(match hi with
   | .d (.int _ h)=>(match mx with
    | .d (.int _ k)=>zez (h=n/\k=n) (K (.cl n cs) m)
    | _=>False)
   | _=>False)
  | _=>False
 | .sealMv x=>opK e x fun v=>yk3 m v fun m'=>K v m'
 | .fieldAddrD off x=>opK e x fun x=>
  match x with
  | .lptr cs b=>K (.lptr cs (b+off)) m
  | _=>False
 | .idxAddrD sz x i=>opK e x fun x=>opK e i fun i=>
  match x with
  | .d (.list n cs)=>(match i with
   | .d (.int _ i)=>zez (0<=i/\i<n) (K (.lptr cs (i.toNat*sz)) m)
   | _=>False)
  | _=>False
 | .appendIn r s x=>opK e s fun s=>opK e x fun x=>z3u m x fun k ds=>
  match s with
  | .ref o off len top=>zix m o fun ob=>
   match ob with
   | some (.row true t sz n xs)=>zez (n=top/\off+len+k<=n/\off+len<n/\t=r.t/\sz=r.sz/\ds.length=k*sz)
    (zts m o (.row true t sz n (patch xs ((off+len)*sz) ds)) fun m'=>K (.ref o off (len+k) top) m')
   | _=>False
  | _=>False
 | .rangeS x=>opK e x fun x=>
  match x with
  | .d (.str s)=>ybs cx slot m fun i=>zts m i (.iter s 0) fun m'=>K (.it i) m'
  | _=>False
 | .nextS x=>opK e x fun x=>
  match x with
  | .it o=>zix m o fun ob=>
   match ob with
   | some (.iter s pos)=>zpp s pos (fun c w=>zts m o (.iter s (pos+w)) fun m'=>K (.tup [.d (.bool true),.d (.int .i64 pos),.d (.int .i32 c)]) m') (K (.tup [.d (.bool false)]) m)
   | _=>False
  | _=>False
 | .extract x i=>opK e x fun x=>
  match x with
  | .tup vs=>ya0 vs i fun v=>K v m
  | _=>False
 | .call shared imm f args=>opK e f fun f=>z56 e args fun vs=>callW E cx slot shared imm (znc f) vs m K
 | .storeR n a x rs=>opK e a fun a=>opK e x fun x=>ybf e rs fun vs=>Chk (z8s a vs) (yas n m a x fun m'=>K .skip m')
 | .bad=>False
 | .appendZ r zero s n=>opK e s fun s=>opK e n fun n=>
  match s,n with
  | .d .nil,.d (.int .i64 n)=>zez (0<n/\zero.length=r.sz/\n.toNat*r.by_<=140737488355328/\n.toNat<=140737488355328)
   (ybs cx slot m fun i=>zts m i (.row r.wr r.t r.sz n.toNat (List.replicate n.toNat zero).flatten) fun m'=>K (.ref i 0 n.toNat n.toNat) m')
  | _,_=>False
 | .callB imm f args b=>∃p,zh3 (fun m=>zg6 E cx slot true imm (znc (f.ev e)) (evs e args) m) m (get e b)=some p/\K p.1 p.2
 | .callR imm f args rs=>opK e f fun f=>z56 e args fun vs=>ybf e rs fun ws=>callW E cx slot true imm (znc f) vs m fun v m'=>Chk (z64 m m' ws) (K v m')
 | .len k x=>opK e x fun x=>ynm m k x fun n=>K (.d (.int .i64 (n:Int))) m
 | .append r s x=>opK e s fun s=>opK e x fun x=>z3u m x fun k ds=>zqv cx slot r m k ds s K
 | .appendF r s x=>opK e s fun s=>opK e x fun x=>z3u m x fun k ds=>zqv cx slot r m k ds s fun v m'=>ze3 false m' v fun d=>K (.d d) m'
 | .strB x=>opK e x fun x=>
  match x with
  | .d (.list 1 [.int .u8 n])=>K (.d (.str [UInt8.ofNat n.toNat])) m
  | _=>False
 | .appendS r s x=>opK e s fun s=>opK e x fun x=>
  match x,s with
  | .d (.str b),.ref o off len top=>zqv cx slot r m b.length (z8x b) (.ref o off len top) K
  | _,_=>False
 | .minmax mx args=>z56 e args fun vs=>z7a mx vs fun d=>K (.d d) m
theorem z8l {cx:Cx} {slot:Nat} {e:Env} {m:Mem} {op:COp} {K:V->Mem->Prop} (h:zhj E cx slot e m op K):∃p,zbz E cx slot e m op=some p/\K p.1 p.2:=by
 cases op with
 | mv x=>simp only [zhj,zbo] at h;exact⟨(_,_),rfl,h⟩
 | ownNil r=>simp only [zhj,zi2,zdb] at h;exact⟨(_,_),rfl,h⟩
 | pick c a b=>
  simp only [zhj,zbo] at h
  simp only [zbz]
  split at h
  ·rename_i t ht
   rw [ht]
   refine⟨(if t then a.ev e else b.ev e,m),rfl,?_⟩
   cases t with
   | true=>exact h.yes rfl
   | false=>exact h.no rfl
  ·exact h.elim
 | alloc t cs=>simp only [zhj,zu5,zi2,zdb] at h;exact⟨(_,_),rfl,h⟩
 | box t x=>
  simp only [zhj,zbo] at h
  obtain⟨cs,h1,h2⟩:=zwi _ _ h
  simp only [zi2,zdb] at h2
  exact⟨(_,_),by simp only [zbz,h1],h2⟩
 | build zero parts=>
  simp only [zhj,zu5,z4t] at h
  obtain⟨cs,h1,h2⟩:=z9a _ _ _ h
  rw [ycx] at h2
  exact⟨(_,_),by simp only [zbz,h1];rfl,h2⟩
 | mkList sz n parts=>
  simp only [zhj,zh4] at h
  obtain⟨cs,h1,h2⟩:=zrp _ _ _ _ h
  exact⟨(_,_),by simp only [zbz,h1];rfl,h2⟩
 | mkListD sz n parts=>
  simp only [zhj,zh4] at h
  obtain⟨hc,h⟩:=h
  obtain⟨cs,h1,h2⟩:=zrp _ _ _ _ h
  exact⟨(_,_),by simp only [zbz,hc,if_true,h1];rfl,h2⟩
 | mkRow r n parts=>
  simp only [zhj,zh4] at h
  obtain⟨cs,h1,h2⟩:=zrp _ _ _ _ h
  simp only [zi2,zdb] at h2
  exact⟨(_,_),by simp only [zbz,h1];rfl,h2⟩
 | load n a=>
  simp only [zhj,zbo] at h
  obtain⟨v,h1,h2⟩:=z9x _ _ _ _ h
  exact⟨(_,_),by simp only [zbz,h1];rfl,h2⟩
 | store n a x=>
  simp only [zhj,zbo] at h
  obtain⟨v,h1,h2⟩:=z5p _ _ _ _ _ h
  exact⟨(_,_),by simp only [zbz,h1];rfl,h2⟩
 | nilCheck x=>
  simp only [zhj,zbo] at h
  simp only [zbz]
  split at h
  ·rename_i hx;rw [hx];exact⟨(_,_),rfl,h⟩
  ·rename_i hx;rw [hx];exact⟨(_,_),rfl,h⟩
  ·rename_i hx;rw [hx];exact⟨(_,_),rfl,h⟩
  ·rename_i hx;rw [hx]
   rw [zcm] at h
   split at h
   ·rename_i hl;exact⟨(_,_),by simp only [z2r,hl];rfl,h⟩
   ·rename_i hl;exact⟨(_,_),by simp [z2r,hl,h.need],h.go⟩
   ·exact h.elim
  ·exact h.elim
 | bin op x y=>
  simp only [zhj,zbo] at h
  obtain⟨v,h1,h2⟩:=yjj _ _ _ _ h
  exact⟨(_,_),by simp only [zbz,h1];rfl,h2⟩
 | eqv ks neg x y=>
  simp only [zhj,zbo] at h
  obtain⟨v,h1,h2⟩:=yjv _ _ _ _ h
  cases neg<;>exact⟨(_,_),by simp only [zbz,h1];rfl,h2⟩
 | un op x=>
  simp only [zhj,zbo] at h
  simp only [zbz]
  split at h
  ·rename_i hx;rw [hx];exact⟨(_,_),rfl,h⟩
  ·rename_i hx;rw [hx];exact⟨(_,_),rfl,h.go⟩
  ·exact h.elim
 | conv k x=>
  simp only [zhj,zbo] at h
  simp only [zbz]
  split at h
  ·rename_i hx;rw [hx];exact⟨(_,_),rfl,h.go⟩
  ·exact h.elim
 | mkFunc f first caps=>simp only [zhj,zh4] at h;exact⟨(_,_),rfl,h⟩
 | makeRow r zero n=>
  simp only [zhj,zbo] at h
  simp only [zbz]
  split at h
  ·rename_i hx;rw [hx]
   obtain⟨⟨h1,h2,h3,h4⟩,h5⟩:=h
   simp only [zi2,zdb] at h5
   exact⟨(_,_),if_pos ⟨h1,h2,by simp [zr5,h3,h4]⟩,h5⟩
  ·exact h.elim
 | sliceS x lo hi=>
  simp only [zhj,zbo,opK?_eq] at h
  simp only [zbz]
  split at h
  ·rename_i hx;rw [hx]
   obtain⟨p,h1,h2⟩:=zof _ _ _ _ h
   obtain⟨l,hh⟩:=p
   simp only [h1]
   exact⟨(_,_),rfl,h2⟩
  ·exact h.elim
 | slice sz x lo hi mx=>
  simp only [zhj,zbo,opK?_eq] at h
  obtain⟨v,h1,h2⟩:=yfs _ _ _ _ _ _ _ h
  exact⟨(_,_),by simp only [zbz,h1];rfl,h2⟩
 | fieldAddr off x=>
  simp only [zhj,zbo] at h
  obtain⟨v,h1,h2⟩:=z92 _ _ _ _ h
  exact⟨(_,_),by simp only [zbz,h1];rfl,h2⟩
 | field off n x=>
  simp only [zhj,zbo] at h
  obtain⟨v,h1,h2⟩:=yhl _ _ _ _ h
  exact⟨(_,_),by simp only [zbz,h1];rfl,h2⟩
 | idxAddr sz x i=>
  simp only [zhj,zbo] at h
  obtain⟨v,h1,h2⟩:=z60 _ _ _ _ _ h
  exact⟨(_,_),by simp only [zbz,h1];rfl,h2⟩
 | idxAddrA len sz x i=>
  simp only [zhj,zbo] at h
  simp only [zbz]
  split at h
  ·rename_i hx;rw [hx]
   obtain⟨h0,h⟩:=h
   obtain⟨v,h1,h2⟩:=z92 _ _ _ _ h
   simp only [asI,if_pos h0,h1]
   exact⟨(_,_),rfl,h2⟩
  ·exact h.elim
 | idxS x i=>
  simp only [zhj,zbo] at h
  simp only [zbz]
  split at h
  ·rename_i hx hi;rw [hx,hi]
   obtain⟨h0,h⟩:=h
   obtain⟨b,h1,h2⟩:=h.got
   simp only [asI,if_pos h0,h1]
   exact⟨(_,_),rfl,h2⟩
  ·exact h.elim
 | mkMap=>simp only [zhj,zi2,zdb] at h;exact⟨(_,_),rfl,h⟩
 | lookup kk zero ok x key=>
  simp only [zhj,zbo] at h
  obtain⟨v,h1,h2⟩:=ybn h
  exact⟨(_,_),by simp only [zbz,h1];rfl,h2⟩
 | mapSet kk x key v=>
  simp only [zhj,zbo] at h
  obtain⟨m',h1,h2⟩:=zzs h
  exact⟨(_,_),by simp only [zbz,h1];rfl,h2⟩
 | mapSetR kk x key v rs=>
  simp only [zhj,zbo,zu3] at h
  obtain⟨hc,h⟩:=h
  obtain⟨m',h1,h2⟩:=zzs h
  exact⟨(_,_),by simp only [zbz,if_pos hc,h1];rfl,h2⟩
 | callK imm f args=>
  simp only [zhj,zbo,zh4] at h
  obtain⟨⟨v,m'⟩,h1,hc,h2⟩:=callW_ok h
  exact⟨(v,m),by simp only [zbz,h1,if_pos hc],h2⟩
 | callQ f args=>
  simp only [zhj,zbo,zh4] at h
  obtain⟨v,h1,h2⟩:=h.got
  exact⟨(v,m),by simp only [zbz,h1];rfl,h2⟩
 | callU b f args=>
  simp only [zhj,zbo,zh4] at h
  obtain⟨v,m',h1,h2⟩:=h.got
  exact⟨(v,m'),by simp only [zbz,h1],h2⟩
 | callN f args=>
  simp only [zhj,zbo,zh4] at h
  simp only [zbz]
  split at h
  ·rename_i hf;rw [hf]
   obtain⟨hc,h⟩:=h
   obtain⟨p,h1,h2⟩:=callW_ok h
   exact⟨p,by simp only [hc,if_true];exact h1,h2⟩
  ·exact h.elim
 | callD f args=>
  simp only [zhj,zbo,zh4] at h
  simp only [zbz]
  split at h
  ·rename_i hf;rw [hf]
   obtain⟨hc,h⟩:=h
   obtain⟨p,h1,h2⟩:=callW_ok h
   exact⟨p,by simp only [hc,if_true];exact h1,h2⟩
  ·exact h.elim
 | nilEq kd neg x=>
  simp only [zhj,zbo] at h
  obtain⟨k,b,h1,hc,h2⟩:=yke h
  exact⟨(_,_),by simp only [zbz,h1];exact if_pos (Nat.eq_of_beq_eq_true hc),h2⟩
 | loadD n a=>
  simp only [zhj,zbo] at h
  simp only [zbz]
  split at h
  ·rename_i ha;rw [ha]
   obtain⟨v,h1,h2⟩:=zr0 _ _ _ _ h
   exact⟨(_,_),by simp only [h1];rfl,h2⟩
  ·exact h.elim
 | sliceC sz x hi mx=>
  simp only [zhj,zbo] at h
  simp only [zbz]
  split at h
  ·rename_i hx;rw [hx]
   split at h
   ·rename_i hh;rw [hh]
    split at h
    ·rename_i hm;rw [hm]
     exact⟨(_,_),if_pos h.need,h.go⟩
    ·exact h.elim
   ·exact h.elim
  ·exact h.elim
 | sealMv x=>
  simp only [zhj,zbo] at h
  exact⟨(_,_),rfl,yh5 _ _ _ h⟩
 | fieldAddrD off x=>
  simp only [zhj,zbo] at h
  simp only [zbz]
  split at h
  ·rename_i hx;rw [hx]
   exact⟨(_,_),rfl,h⟩
  ·exact h.elim
 | idxAddrD sz x i=>
  simp only [zhj,zbo] at h
  simp only [zbz]
  split at h
  ·rename_i hx;rw [hx]
   split at h
   ·rename_i hi;rw [hi]
    exact⟨(_,_),if_pos h.need,h.go⟩
   ·exact h.elim
  ·exact h.elim
 | appendIn r s x=>
  simp only [zhj,zbo] at h
  obtain⟨⟨k,ds⟩,h1,h2⟩:=zwp _ _ _ h
  simp only [zbz,zqu,h1]
  split at h2
  ·rename_i hs;rw [hs]
   rw [zcm] at h2
   split at h2
   ·rename_i hl
    obtain⟨hc,h3⟩:=h2
    rw [zdb] at h3
    exact⟨(_,_),by simp only [hl];exact if_pos hc,h3⟩
   ·exact h2.elim
  ·exact h2.elim
 | rangeS x=>
  simp only [zhj,zbo] at h
  simp only [zbz]
  split at h
  ·rename_i hx;rw [hx]
   simp only [zi2,zdb] at h
   exact⟨(_,_),rfl,h⟩
  ·exact h.elim
 | nextS x=>
  simp only [zhj,zbo] at h
  simp only [zbz]
  split at h
  ·rename_i hx;rw [hx]
   rw [zcm] at h
   split at h
   ·rename_i s pos hl
    simp only [zdb] at h
    simp only [yhh,hl]
    by_cases hp:pos<s.length
    ·exact⟨(_,_),if_pos hp,h.yes hp⟩
    ·exact⟨(_,_),if_neg hp,h.no hp⟩
   ·exact h.elim
  ·exact h.elim
 | extract x i=>
  simp only [zhj,zbo] at h
  simp only [zbz]
  split at h
  ·rename_i hx;rw [hx]
   obtain⟨v,h1,h2⟩:=h.got
   exact⟨(_,_),by simp only [h1];rfl,h2⟩
  ·exact h.elim
 | call shared imm f args=>
  simp only [zhj,zbo,zh4] at h
  exact callW_ok h
 | storeR n a x rs=>
  simp only [zhj,zbo,zu3] at h
  obtain⟨hc,h⟩:=h
  obtain⟨v,h1,h2⟩:=z5p _ _ _ _ _ h
  exact⟨(_,_),by simp only [zbz,if_pos hc,h1];rfl,h2⟩
 | callB imm f args b=>exact h
 | bad=>exact h.elim
 | appendZ r zero s n=>
  simp only [zhj,zbo] at h
  simp only [zbz]
  split at h
  ·rename_i hs hn;rw [hs,hn]
   obtain⟨⟨h1,h2,h3,h4⟩,h5⟩:=h
   rw [zi2,zdb] at h5
   exact⟨(_,_),if_pos ⟨h1,h2,by simp [zr5,h3,h4]⟩,h5⟩
  ·exact h.elim
 | callR imm f args rs=>
  simp only [zhj,zbo,zh4,zu3] at h
  obtain⟨⟨v,m'⟩,h1,hc,h2⟩:=callW_ok h
  exact⟨(v,m'),by simp only [zbz,h1,if_pos hc],h2⟩
 | len k x=>
  simp only [zhj,zbo] at h
  obtain⟨v,h1,h2⟩:=yj7 _ _ _ _ h
  exact⟨(_,_),by simp only [zbz,h1];rfl,h2⟩
 | append r s x=>
  simp only [zhj,zbo] at h
  obtain⟨⟨k,ds⟩,h1,h2⟩:=zwp _ _ _ h
  simp only [zbz,zpr,h1]
  exact zpq _ _ _ _ _ _ _ _ h2
 | appendF r s x=>
  simp only [zhj,zbo] at h
  obtain⟨⟨k,ds⟩,h1,h2⟩:=zwp _ _ _ h
  obtain⟨⟨v,m'⟩,h3,h4⟩:=zpq _ _ _ _ _ _ _ _ h2
  obtain⟨d,h5,h6⟩:=zls _ _ _ _ h4
  exact⟨(_,_),by simp only [zbz,zpr,h1,h3,h5];rfl,h6⟩
 | strB x=>
  simp only [zhj,zbo] at h
  simp only [zbz]
  split at h
  ·rename_i hx;rw [hx];exact⟨(_,_),rfl,h⟩
  ·exact h.elim
 | appendS r s x=>
  simp only [zhj,zbo] at h
  simp only [zbz]
  split at h
  ·rename_i hx hs;rw [hx,hs]
   simp only [zqw]
   exact zpq _ _ _ _ _ _ _ _ h
  ·exact h.elim
 | minmax mx args=>
  simp only [zhj,zh4] at h
  obtain⟨v,h1,h2⟩:=ybp _ _ _ h
  exact⟨(_,_),by simp only [zbz,h1];rfl,h2⟩
def ylb (E:Oracle) (cx:Cx) (e:Env) (m:Mem) (o:CO) (K:V->Mem->Prop):Prop:=
 match o with
 | ⟨dst,none,op⟩=>zhj E cx (dst.getD 0) e m op K
 | ⟨dst,some (t,want),op⟩=>ygk e t fun g=>
  match g with
  | .d (.bool b)=>(match want with
   | true=>Br b (zhj E cx (dst.getD 0) e m op K) (K .skip m)
   | false=>Br b (K .skip m) (zhj E cx (dst.getD 0) e m op K))
  | .skip=>K .skip m
  | _=>False
theorem yif {cx:Cx} {e:Env} {m:Mem} {o:CO} {K:V->Mem->Prop} (h:ylb E cx e m o K):∃p,zdd E cx e m o=some p/\K p.1 p.2:=by
 obtain⟨dst,guard,op⟩:=o
 cases guard with
 | none=>exact z8l h
 | some g=>
  obtain⟨t,want⟩:=g
  simp only [ylb,znv] at h
  simp only [zdd]
  split at h
  ·rename_i b hb
   rw [hb]
   cases want<;>cases b
   ·exact z8l (h.no rfl)
   ·exact⟨(_,_),rfl,h.yes rfl⟩
   ·exact⟨(_,_),rfl,h.no rfl⟩
   ·exact z8l (h.yes rfl)
  ·rename_i hb;rw [hb];exact⟨(_,_),rfl,h⟩
  ·exact h.elim
def wpOps (E:Oracle) (cx:Cx):List CO->Env->Mem->(Env->Mem->Prop)->Prop
 | [],e,m,K=>K e m
 | o::r,e,m,K=>ylb E cx e m o fun v m'=>put?K e o.dst v fun e'=>wpOps E cx r e' m' K
theorem wpOps_ok {cx:Cx}:∀(os:List CO) (e:Env) (m:Mem) (K:Env->Mem->Prop),wpOps E cx os e m K->∃p,zfd E cx os e m=some p/\K p.1 p.2
 | [],e,m,K,h=>⟨(e,m),rfl,h⟩
 | o::r,e,m,K,h=>by
  obtain⟨⟨v,m'⟩,h1,h2⟩:=yif h
  rw [put?K_eq] at h2
  obtain⟨p,h3,h4⟩:=wpOps_ok r _ _ K h2
  exact⟨p,by simp only [zfd,h1];exact h3,h4⟩
def yo1 (K1:Env->Mem->Prop) (K:Ex->Env->Mem->Prop) (x:Ex) (e:Env) (m:Mem):Prop:=
 match x with
 | .normal=>K1 e m
 | .exit i=>K (.exit i) e m
 | .ret=>K .ret e m
def yio (id:Nat) (K:Ex->Env->Mem->Prop) (x:Ex) (e:Env) (m:Mem):Prop:=
 match x with
 | .normal=>K .normal e m
 | .exit j=>(match Nat.beq j id with
  | true=>K .normal e m
  | false=>K (.exit j) e m)
 | .ret=>K .ret e m
def yi1 (cx:Cx) (i:Id) (e:Env) (K:Ex->Env->Mem->Prop) (m':Mem):Prop:=zix m' i fun o=>
 match o with
 | some (.loop _ _ _ _ _ false _ j)=>zy2 cx.nx m' fun mb=>
  (match yj8 cx.nx (idsAll mb) with
  | true=>zts mb i .gone fun m2=>
   (match j with
   | none=>K .normal e m2
   | some (.exit id)=>K (.exit id) e m2
   | some .ret=>K .ret e m2)
  | false=>False)
 | _=>False
def wpC (E:Oracle) (cx:Cx):C->Env->Mem->(Ex->Env->Mem->Prop)->Prop
 | .skip,e,m,K=>K .normal e m
 | .label,e,m,K=>K .normal e m
 | .reg _ ops kill,e,m,K=>wpOps E cx ops e m fun e' m'=>zoz kill e' fun e''=>K .normal e'' m'
 | .regC ops kill chk,e,m,K=>wpOps E cx ops e m fun e' m'=>Chk (ydf e' chk) (zoz kill e' fun e''=>K .normal e'' m')
 | .seq a b,e,m,K=>wpC E cx a e m (yo1 (fun e' m'=>wpC E cx b e' m' K) K)
 | .cond c a b,e,m,K=>opK e c fun v=>
  match v with
  | .d (.bool t)=>Br t (wpC E cx a e m K) (wpC E cx b e m K)
  | _=>False
 | .block id c,e,m,K=>wpC E cx c e m (yio id K)
 | .loop live c,e,m,K=>yet e live fun e'=>z65 m fun ks=>gcK ks e' m fun m'=>zao E cx live ks c e' m' K
 | .exit id,e,m,K=>K (.exit id) e m
 | .ret,e,m,K=>K .ret e m
 | .bad,_,_,_=>False
 | .scope c,e,m,K=>wpC E cx c e m K
 | .fz t c,e,m,K=>ygk e t fun v=>ze3 false m v fun d=>ylm e t (.d d) fun e'=>wpC E cx c e' m K
 | .rangeM pre it x out nxt pair live ops kill code,e,m,K=>wpOps E cx pre e m fun e1 m1=>
  ∃x' e' m',zgr (fun e m=>(zfd E cx ops e m).bind fun q=>evC E cx code (zbs kill q.1) q.2) cx it x out nxt pair live e1 m1=some (x',e',m')/\K x' e' m'
 | .rangeFn slot f ps a b,e,m,K=>ybs cx slot m fun i=>zts m i (.loop e ps a b cx.lv false false none) fun m1=>z65 m1 fun ks=>
  match yj8 cx.nx ks with
  | true=>opK e f fun fv=>
   (match fv with
   | .fn g first caps=>In E cx.nx g (first ++[.yld i]++caps) m1 fun _ m'=>yi1 cx i e K m'
   | _=>False)
  | false=>False
theorem wpC_ok {cx:Cx}:∀(c:C) (e:Env) (m:Mem) (K:Ex->Env->Mem->Prop),wpC E cx c e m K->∃x e' m',evC E cx c e m=some (x,e',m')/\K x e' m'
 | .rangeM pre it x out nxt pair live ops kill code,e,m,K,h=>by
  obtain⟨p,h1,x',e',m',h2,h3⟩:=wpOps_ok pre e m _ h
  exact⟨x',e',m',by simp only [evC,h1,Option.bind_some,h2],h3⟩
 | .skip,e,m,K,h=>⟨_,_,_,rfl,h⟩
 | .label,e,m,K,h=>⟨_,_,_,rfl,h⟩
 | .exit _,e,m,K,h=>⟨_,_,_,rfl,h⟩
 | .ret,e,m,K,h=>⟨_,_,_,rfl,h⟩
 | .bad,_,_,_,h=>h.elim
 | .fz t c,e,m,K,h=>by
  simp only [wpC,znv] at h
  obtain⟨d,hd,h⟩:=zls _ _ _ _ h
  rw [z17] at h
  obtain⟨x,e',m',h1,h2⟩:=wpC_ok c _ m K h
  exact⟨x,e',m',by simp only [evC,hd];exact h1,h2⟩
 | .scope c,e,m,K,h=>by
  obtain⟨x,e',m',h1,h2⟩:=wpC_ok c e m K h
  exact⟨x,e',m',by simp only [evC];exact h1,h2⟩
 | .reg _ ops kill,e,m,K,h=>by
  obtain⟨p,h1,h2⟩:=wpOps_ok ops e m _ h
  rw [zmv] at h2
  exact⟨_,_,_,by simp only [evC,h1];rfl,h2⟩
 | .regC ops kill chk,e,m,K,h=>by
  obtain⟨p,h1,hc,h2⟩:=wpOps_ok ops e m _ h
  rw [zmv] at h2
  exact⟨_,_,_,by simp only [evC,h1,Option.bind_some];exact if_pos hc,h2⟩
 | .seq a b,e,m,K,h=>by
  obtain⟨x,e',m',h1,h2⟩:=wpC_ok a e m _ h
  cases x with
  | normal=>
   obtain⟨x2,e2,m2,h3,h4⟩:=wpC_ok b e' m' K h2
   exact⟨x2,e2,m2,by simp only [evC,h1];exact h3,h4⟩
  | _=>exact⟨_,_,_,by simp only [evC,h1],h2⟩
 | .cond c a b,e,m,K,h=>by
  simp only [wpC,zbo] at h
  simp only [evC]
  split at h
  ·rename_i t ht
   rw [ht]
   cases t with
   | true=>
    obtain⟨x2,e2,m2,h3,h4⟩:=wpC_ok a e m K (h.yes rfl)
    exact⟨x2,e2,m2,by simpa using h3,h4⟩
   | false=>
    obtain⟨x2,e2,m2,h3,h4⟩:=wpC_ok b e m K (h.no rfl)
    exact⟨x2,e2,m2,by simpa using h3,h4⟩
  ·exact h.elim
 | .block id c,e,m,K,h=>by
  obtain⟨x,e',m',h1,h2⟩:=wpC_ok c e m _ h
  cases x with
  | exit j=>
   simp only [yio] at h2
   cases hb:Nat.beq j id with
   | true=>
    rw [hb] at h2
    exact⟨.normal,e',m',by simp only [evC,h1];exact if_pos (Nat.eq_of_beq_eq_true hb),h2⟩
   | false=>
    rw [hb] at h2
    have:j≠id:=fun hh=>by rw [hh,Nat.beq_refl] at hb;cases hb
    exact⟨.exit j,e',m',by simp only [evC,h1];exact if_neg this,h2⟩
  | _=>exact⟨_,_,_,by simp only [evC,h1],h2⟩
 | .loop live c,e,m,K,h=>by
  simp only [wpC,z14,zrm,ydu] at h
  obtain⟨x,e',m',h1,h2⟩:=h.got
  exact⟨x,e',m',by simp only [evC,h1],h2⟩
 | .rangeFn slot f ps a b,e,m,K,h=>by
  simp only [wpC,zi2,zdb,zrm,zxc,zbo] at h
  simp only [evC]
  split at h
  ·rename_i hl
   rw [if_pos hl]
   split at h
   ·rename_i hf
    rw [hf]
    obtain⟨v,m',h1,h2⟩:=h.got
    simp only [h1]
    simp only [yi1,zcm,zq4,zxc,zdb] at h2
    split at h2
    ·rename_i hlk
     simp only [hlk]
     split at h2
     ·rename_i hl2
      simp only [if_pos hl2]
      split at h2<;>exact⟨_,_,_,rfl,h2⟩
     ·exact h2.elim
    ·exact h2.elim
   ·exact h.elim
  ·exact h.elim
def ymh (m:Mem) (e:Env) (r:RV) (K:V->Prop):Prop:=
 match r with
 | .tmp t=>ygk e t K
 | .cell t n=>ygk e t fun a=>yhd n m a K
theorem yfd {m:Mem} {e:Env} {r:RV} {K:V->Prop} (h:ymh m e r K):∃v,ymg m e r=some v/\K v:=by
 cases r with
 | tmp t=>simp only [ymh,znv] at h;exact⟨_,rfl,h⟩
 | cell t n=>simp only [ymh,znv] at h;exact z9x _ _ _ _ h
def ykr (m:Mem) (e:Env):List RV->(List V->Prop)->Prop
 | [],K=>K []
 | r::q,K=>ymh m e r fun v=>ykr m e q fun vs=>K (v::vs)
theorem yae {m:Mem} {e:Env}:∀(l:List RV) (K:List V->Prop),ykr m e l K->∃vs,zys m e l=some vs/\K vs
 | [],K,h=>⟨[],rfl,h⟩
 | r::q,K,h=>by
  obtain⟨v,h1,h2⟩:=yfd h
  obtain⟨vs,h3,h4⟩:=yae q _ h2
  exact⟨v::vs,by simp only [zys,h1,h3],h4⟩
def zve (m:Mem) (e:Env) (rs:List RV) (K:V->Prop):Prop:=
 match rs with
 | []=>K (.tup [])
 | [r]=>ymh m e r K
 | r::r2::rs=>ykr m e (r::r2::rs) fun vs=>K (.tup vs)
theorem zxr {m:Mem} {e:Env} {rs:List RV} {K:V->Prop} (h:zve m e rs K):∃v,results m e rs=some v/\K v:=by
 unfold zve at h
 split at h
 ·exact⟨_,rfl,h⟩
 ·exact yfd h
 ·obtain⟨vs,h1,h2⟩:=yae _ _ h
  exact⟨_,by simp only [results,h1];rfl,h2⟩
def ynh (rs:List RV) (K:V->Mem->Prop) (x:Ex) (e:Env) (m:Mem):Prop:=
 match x with
 | .normal=>zve m e rs fun v=>K v m
 | .ret=>zve m e rs fun v=>K v m
 | .exit _=>False
def ym5:Nat->List V->(Env->Prop)->Prop
 | _,[],K=>K []
 | i,v::r,K=>ym5 (i+1) r fun e=>K ((i,v)::e)
theorem yev:∀(i:Nat) (l:List V) (K:Env->Prop),ym5 i l K=K (params i l)
 | _,[],_=>rfl
 | i,v::r,K=>by simp only [ym5,params,yev (i+1) r]
variable {Γ : Nat -> Option CF} {X : Extern}
def yc6 (E:Oracle) (lv:Nat) (cf:CF) (args:List V) (m:Mem) (K:V->Mem->Prop):Prop:=ym5 0 args fun e=>wpC E ⟨lv,lv+1⟩ cf.body e m (ynh cf.results K)
theorem In.enter (hE:Lim Γ X E) {lv f:Nat} {args:List V} {m:Mem} {K:V->Mem->Prop} {cf:CF} (hX:X f=none) (hc:Γ f=some cf) (h:yc6 E lv cf args m K):In E lv f args m K:=by
 simp only [yc6,yev] at h
 obtain⟨x,e',m',h1,h2⟩:=wpC_ok _ _ _ _ h
 refine⟨?_⟩
 rw [hE.fix]
 simp only [step,hX,hc,h1]
 cases x with
 | normal=>
  simp only [ynh] at h2
  obtain⟨v,h3,h4⟩:=zxr h2
  exact⟨v,m',by simp only [h3];rfl,h4⟩
 | ret=>
  simp only [ynh] at h2
  obtain⟨v,h3,h4⟩:=zxr h2
  exact⟨v,m',by simp only [h3];rfl,h4⟩
 | exit i=>exact h2.elim
theorem Fc.enter (hE:Lim Γ X E) {f:Nat} {args:List V} {r:V} {cf:CF} (hX:X f=none) (hc:Γ f=some cf) (h:yc6 E 0 cf args [] fun v m'=>yga m' v fun d=>Ret d r):Fc E f args r:=by
 obtain⟨v,m',h1,h2⟩:=(In.enter hE hX hc h).got
 obtain⟨d,h3,h4⟩:=yaw _ _ _ h2
 exact⟨v,m',h1,by rw [h3,h4.eq]⟩
theorem Fc.extern (hE:Lim Γ X E) {f:Nat} {args:List V} {r v:V} {m':Mem} {x:List V->Mem->Option (V×Mem)} (hX:X f=some x) (h:x args []=some (v,m')) (ht:thaw m' v=some r):Fc E f args r:=
 ⟨v,m',by rw [hE.fix];simp only [step,hX,h];rfl,ht⟩
theorem In.extern (hE:Lim Γ X E) {lv f:Nat} {args:List V} {m:Mem} {K:V->Mem->Prop} {v:V} {m':Mem} {x:List V->Mem->Option (V×Mem)} (hX:X f=some x) (h:x args m=some (v,m')) (hk:K v m'):In E lv f args m K:=
 ⟨v,m',by rw [hE.fix];simp only [step,hX,h];rfl,hk⟩
theorem zaz.of {f:Nat} {args:List V} {r:V} {K:V->Prop} (h:Fc E f args r) (hk:K r):zaz E f args K:=⟨r,h,hk⟩
def z2w (E:Oracle) (cx:Cx) (live:List Nat) (keep:List Id) (body:C) (K:Ex->Env->Mem->Prop) (x:Ex) (e:Env) (m:Mem):Prop:=
 match x with
 | .normal=>yet e live fun e2=>gcK keep e2 m fun m2=>zao E cx live keep body e2 m2 K
 | .exit i=>K (.exit i) e m
 | .ret=>K .ret e m
theorem zao.step (hE:Lim Γ X E) {cx:Cx} {live:List Nat} {keep:List Id} {body:C} {e:Env} {m:Mem} {K:Ex->Env->Mem->Prop} (h:wpC E cx body e m (z2w E cx live keep body K)):zao E cx live keep body e m K:=by
 obtain⟨x,e',m',h1,h2⟩:=wpC_ok _ _ _ _ h
 refine⟨?_⟩
 rw [hE.fix]
 simp only [Go.Evl.step,h1]
 cases x with
 | normal=>
  simp only [z2w,z14,ydu] at h2
  exact h2.got
 | exit i=>exact⟨_,_,_,rfl,h2⟩
 | ret=>exact⟨_,_,_,rfl,h2⟩
theorem zao.mono {cx:Cx} {live:List Nat} {keep:List Id} {body:C} {e:Env} {m:Mem} {K K':Ex->Env->Mem->Prop} (h:zao E cx live keep body e m K) (hk:∀x e m,K x e m->K' x e m):zao E cx live keep body e m K':=by
 obtain⟨x,e',m',h1,h2⟩:=h.got
 exact⟨x,e',m',h1,hk _ _ _ h2⟩
def ym7:List Nat->List V->Env->(Env->Prop)->Prop
 | t::r,v::s,e,K=>ylm e t v fun e'=>ym7 r s e' K
 | [],_,e,K=>K e
 | _::_,[],e,K=>K e
theorem yge:∀(ps:List Nat) (vs:List V) (e:Env) (K:Env->Prop),ym7 ps vs e K=K (ylc ps vs e)
 | [],[],e,K=>rfl
 | [],_::_,e,K=>rfl
 | _::_,[],e,K=>rfl
 | t::r,v::s,e,K=>by simp only [ym7,ylc,z17,yge r s]
def yag (o:Id) (ks:List Id) (K:V->Mem->Prop) (x:Ex) (_:Env) (m2:Mem):Prop:=zix m2 o fun ob=>
 match ob with
 | some (.loop e' ps' a' b' lv' true false _)=>
  (match x with
  | .normal=>zts m2 o (.loop e' ps' a' b' lv' false false none) fun m3=>gcK ks [] m3 fun m4=>K (.d (.bool true)) m4
  | .exit id=>zts m2 o (.loop e' ps' a' b' lv' false true (some (.exit id))) fun m3=>K (.d (.bool false)) m3
  | .ret=>zts m2 o (.loop e' ps' a' b' lv' false true (some .ret)) fun m3=>K (.d (.bool false)) m3)
 | _=>False
def yah (E:Oracle) (nx:Nat) (o:Id) (lv:Nat) (b:C) (ks:List Id) (K:V->Mem->Prop) (x:Ex) (e1:Env) (m1:Mem):Prop:=
 match x with
 | .normal=>zix m1 o fun ob=>
  (match ob with
  | some (.loop e' ps' a' b' lv' false false j')=>zts m1 o (.loop e' ps' a' b' lv' true false j') fun m2=>wpC E ⟨lv,nx⟩ b e1 m2 (yag o ks K)
  | _=>False)
 | _=>False
def yi4 (E:Oracle) (nx:Nat) (o:Id) (args:List V) (m:Mem) (K:V->Mem->Prop):Prop:=zix m o fun ob=>
 match ob with
 | some (.loop e ps a b lv false false _)=>
  (match Nat.beq ps.length args.length with
  | true=>ym7 ps args e fun e0=>z65 m fun ks=>wpC E ⟨lv,nx⟩ a e0 m (yah E nx o lv b ks K)
  | false=>False)
 | _=>False
theorem Rnd.enter (hE:Lim Γ X E) {nx:Nat} {o:Id} {args:List V} {m:Mem} {K:V->Mem->Prop} (h:yi4 E nx o args m K):Rnd E nx o args m K:=by
 refine⟨?_⟩
 rw [hE.fix]
 simp only [yi4,zcm] at h
 simp only [Go.Evl.step]
 split at h
 ·rename_i hl
  simp only [hl]
  split at h
  ·rename_i hlen
   rw [if_pos (Nat.eq_of_beq_eq_true hlen)]
   simp only [yge,zrm] at h
   obtain⟨x,e1,m1,h1,h2⟩:=wpC_ok _ _ _ _ h
   simp only [h1]
   cases x with
   | normal=>
    simp only [yah,zcm] at h2
    split at h2
    ·rename_i hl1
     simp only [hl1]
     rw [zdb] at h2
     obtain⟨x,e2,m2,h3,h4⟩:=wpC_ok _ _ _ _ h2
     simp only [h3]
     simp only [yag,zcm] at h4
     split at h4
     ·rename_i hl2
      simp only [hl2]
      cases x with
      | normal=>
       simp only [zdb,ydu] at h4
       exact⟨_,_,rfl,h4⟩
      | exit i=>
       simp only [zdb] at h4
       exact⟨_,_,rfl,h4⟩
      | ret=>
       simp only [zdb] at h4
       exact⟨_,_,rfl,h4⟩
     ·exact h4.elim
    ·exact h2.elim
   | exit i=>exact h2.elim
   | ret=>exact h2.elim
  ·exact h.elim
 ·exact h.elim
end
end Go.Evl
