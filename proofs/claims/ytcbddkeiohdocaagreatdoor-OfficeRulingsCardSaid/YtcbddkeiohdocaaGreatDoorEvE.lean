
/-
 The evaluator's limit, and what is to be shown for code to end well.
-/
import Derived.Test.YtcbddkeiohdocaaGreatDoorEvSyn
namespace Go.Evl
def Le (F G:Oracle):Prop:=∀q r,F q=some r→G q=some r
structure Chain (It:Nat→Oracle) (E:Oracle):Prop where
 up:∀n,Le (It n) (It (n+1))
 lim:∀q r,E q=some r↔∃n,It n q=some r
theorem Chain.le {It:Nat→Oracle} {E:Oracle} (h:Chain It E) {n m:Nat} (hnm:n≤m):Le (It n) (It m):=by
 induction hnm with
 | refl=>exact fun _ _ h=>h
 | step _ ih=>exact fun q r hq=>h.up _ q r (ih q r hq)
structure Cont {α:Type} (It:Nat→Oracle) (E:Oracle) (f:Oracle→Option α):Prop where
 mono:∀F G,Le F G→∀r,f F=some r→f G=some r
 reach:∀r,f E=some r→∃n,f (It n)=some r
section
variable {It : Nat → Oracle} {E : Oracle} {α β : Type}
theorem Cont.const {f:Oracle→Option α} (h:∀F G,f F=f G):Cont It E f:=
 ⟨fun F G _ _ hr=>(h G F).trans hr,fun _ hr=>⟨0,(h _ E).trans hr⟩⟩
theorem Cont.query (hc:Chain It E) (q:Req):Cont It E (fun F=>F q):=
 ⟨fun _ _ h r hr=>h q r hr,fun r hr=>(hc.lim q r).1 hr⟩
theorem Cont.bind (hc:Chain It E) {f:Oracle→Option α} {k:α→Oracle→Option β} (hf:Cont It E f) (hk:∀a,Cont It E (k a)):Cont It E (fun F=>(f F).bind fun a=>k a F):=by
 refine⟨fun F G h r hr=> ?_,fun r hr=> ?_⟩
 ·obtain⟨a,h1,h2⟩:=Option.bind_eq_some_iff.1 hr
  exact Option.bind_eq_some_iff.2 ⟨a,hf.mono F G h a h1,(hk a).mono F G h r h2⟩
 ·obtain⟨a,h1,h2⟩:=Option.bind_eq_some_iff.1 hr
  obtain⟨n,hn⟩:=hf.reach a h1
  obtain⟨k',hk'⟩:=(hk a).reach r h2
  refine⟨max n k',Option.bind_eq_some_iff.2 ⟨a,hf.mono _ _ (hc.le (Nat.le_max_left _ _)) a hn,(hk a).mono _ _ (hc.le (Nat.le_max_right _ _)) r hk'⟩⟩
theorem Cont.of_eq {f g:Oracle→Option α} (h:∀F,f F=g F) (hg:Cont It E g):Cont It E f:=by
 have:f=g:=funext h
 rw [this];exact hg
theorem cont_ite {p:Prop} [Decidable p] {f g:Oracle→Option α} (hf:Cont It E f) (hg:Cont It E g):Cont It E (fun F=>if p then f F else g F):=by
 by_cases h:p
 ·exact Cont.of_eq (fun F=>if_pos h) hf
 ·exact Cont.of_eq (fun F=>if_neg h) hg
variable (hc : Chain It E)
include hc
theorem cont_callShared (cx:Cx) (f:V) (args:List V) (m:Mem):Cont It E (fun F=>callShared F cx f args m):=by
 cases f with
 | fn f first caps=>
  refine Cont.of_eq (g:=fun F=>(F (.call cx.nx f (first ++args++caps) m)).bind fun r=>match r with| .val v m'=>some (v,m')|_=>none) (fun F=> ?_) (Cont.bind hc (Cont.query hc _) fun r=>Cont.const fun _ _=>rfl)
  simp only [callShared]
  cases F (.call cx.nx f (first ++args++caps) m) with
  | none=>rfl
  | some r=>cases r<;>rfl
 | yld o=>
  refine Cont.of_eq (g:=fun F=>(F (.round cx.nx o args m)).bind fun r=>match r with| .val v m'=>some (v,m')|_=>none) (fun F=> ?_) (Cont.bind hc (Cont.query hc _) fun r=>Cont.const fun _ _=>rfl)
  simp only [callShared]
  cases F (.round cx.nx o args m) with
  | none=>rfl
  | some r=>cases r<;>rfl
 | _=>exact Cont.const fun _ _=>rfl
theorem cont_callV (cx:Cx) (slot:Nat) (shared imm:Bool) (f:V) (args:List V) (m:Mem):Cont It E (fun F=>callV F cx slot shared imm f args m):=by
 unfold callV
 refine cont_ite (cont_ite ?_ (Cont.const fun _ _=>rfl)) ?_
 ·refine Cont.of_eq (g:=fun F=>(callShared F cx f args m).bind fun p=>if allLow cx.nx (idsAll (belowLv cx.nx p.2)) then takeV cx slot cx.nx imm (belowLv cx.nx p.2) p.2 p.1 else none) (fun F=> ?_) (Cont.bind hc (cont_callShared hc cx f args m) fun r=>Cont.const fun _ _=>rfl)
  cases callShared F cx f args m<;>rfl
 ·cases f with
  | fn f first caps=>
   dsimp only
   generalize freezeL false m (first ++args++caps)=o
   cases o with
   | none=>exact Cont.const fun _ _=>rfl
   | some ds=>
    refine Cont.of_eq (g:=fun F=>(F (.call 0 f (asV ds) [])).bind fun r=>match r with| .val v m'=>takeV cx slot 0 imm m m' v|_=>none) (fun F=> ?_) (Cont.bind hc (Cont.query hc _) fun r=>Cont.const fun _ _=>rfl)
    simp only
    cases F (.call 0 f (asV ds) []) with
    | none=>rfl
    | some r=>cases r<;>rfl
  | _=>exact Cont.const fun _ _=>rfl
theorem cont_callQV (f:V) (args:List V) (m:Mem):Cont It E (fun F=>callQV F f args m):=by
 cases f with
 | fn f first caps=>
  simp only [callQV]
  refine cont_ite ?_ (Cont.const fun _ _=>rfl)
  refine Cont.of_eq (g:=fun F=>(F (.call 1 f (renL (number ⟨0,0⟩ 0 0 (reach 0 m 64 (idsL (first ++args++caps)) [])) (first ++args++caps)) (moved (number ⟨0,0⟩ 0 0 (reach 0 m 64 (idsL (first ++args++caps)) [])) m (number ⟨0,0⟩ 0 0 (reach 0 m 64 (idsL (first ++args++caps)) []))))).bind fun r=>match r with
   | .val v m1=>if keptM m1 (moved (number ⟨0,0⟩ 0 0 (reach 0 m 64 (idsL (first ++args++caps)) [])) m (number ⟨0,0⟩ 0 0 (reach 0 m 64 (idsL (first ++args++caps)) [])))&&(ids v).all (fun i=>((number ⟨0,0⟩ 0 0 (reach 0 m 64 (idsL (first ++args++caps)) [])).map (·.2)).elem i) then some (ren (backS (number ⟨0,0⟩ 0 0 (reach 0 m 64 (idsL (first ++args++caps)) []))) v) else none
   | _=>none) (fun F=> ?_) (Cont.bind hc (Cont.query hc _) fun r=>Cont.const fun _ _=>rfl)
  generalize number ⟨0,0⟩ 0 0 (reach 0 m 64 (idsL (first ++args++caps)) [])=σ
  cases F (.call 1 f (renL σ (first ++args++caps)) (moved σ m σ)) with
  | none=>rfl
  | some r=>cases r<;>rfl
 | _=>exact Cont.const fun _ _=>rfl
theorem cont_allM {γ:Type} {run:Oracle→γ→Option α} (h:∀a,Cont It E (fun F=>run F a)):∀l:List γ,Cont It E (fun F=>allM (run F) l)
 | []=>Cont.const fun _ _=>rfl
 | a::r=>Cont.bind hc (h a) fun _=>Cont.bind hc (cont_allM h r) fun _=>Cont.const fun _ _=>rfl
theorem cont_callBag {run:Oracle→Mem→Option (V×Mem)} (h:∀m,Cont It E (fun F=>run F m)) (m:Mem) (v:V):Cont It E (fun F=>callBag (run F) m v):=by
 unfold callBag
 split
 ·split
  ·exact cont_ite (Cont.bind hc (h _) fun _=>Cont.bind hc (cont_allM hc (fun _=>h _) _) fun _=>Cont.const fun _ _=>rfl) (Cont.const fun _ _=>rfl)
  ·exact h m
 ·exact h m
theorem cont_evRange {body:Oracle→Env→Mem→Option (Ex×Env×Mem)} (h:∀e m,Cont It E (fun F=>body F e m)) (it:Nat) (i:Id) (out nxt pair:Nat) (live:List Nat) (keep:List Id):
  ∀(l:List (D×V)) (e:Env) (m:Mem),Cont It E (fun F=>evRange (body F) it i out nxt pair live keep l e m)
 | [],_,_=>Cont.const fun _ _=>rfl
 | (k,v)::r,e,m=>by
  refine Cont.bind hc (h _ _) fun p=> ?_
  unfold rangeNext
  split
  ·exact cont_ite (cont_evRange h it i out nxt pair live keep r _ _) (Cont.const fun _ _=>rfl)
  ·exact Cont.const fun _ _=>rfl
theorem cont_rangeMC {body:Oracle→Env→Mem→Option (Ex×Env×Mem)} (h:∀e m,Cont It E (fun F=>body F e m)) (cx:Cx) (it:Nat) (x:Opd) (out nxt pair:Nat) (live:List Nat) (e:Env) (m:Mem):
  Cont It E (fun F=>rangeMC (body F) cx it x out nxt pair live e m):=by
 unfold rangeMC
 split
 ·split
  ·exact Cont.bind hc (Cont.bind hc (cont_evRange hc h _ _ _ _ _ _ _ _ _ _) fun _=>Cont.bind hc (cont_allM hc (fun _=>cont_evRange hc h _ _ _ _ _ _ _ _ _ _) _) fun _=>Cont.const fun _ _=>rfl) fun _=>Cont.const fun _ _=>rfl
  ·exact Cont.const fun _ _=>rfl
 ·exact Cont.const fun _ _=>rfl
theorem cont_evOp (cx:Cx) (slot:Nat) (e:Env) (m:Mem) (op:COp):Cont It E (fun F=>evOp F cx slot e m op):=by
 cases op with
 | call s i f args=>exact cont_callV hc cx slot s i _ _ m
 | callD f args=>
  simp only [evOp]
  split
  ·split
   ·exact cont_callV hc cx slot false true _ _ m
   ·exact Cont.const fun _ _=>rfl
  ·exact Cont.const fun _ _=>rfl
 | callK i f args=>
  refine Cont.of_eq (g:=fun F=>(callV F cx slot true i (toFn (f.ev e)) (evs e args) m).bind fun p=>if leM m p.2 m=true then some (p.1,m) else none) (fun F=> ?_) (Cont.bind hc (cont_callV hc cx slot true i _ _ m) fun p=>Cont.const fun _ _=>rfl)
  simp only [evOp]
  cases callV F cx slot true i (toFn (f.ev e)) (evs e args) m<;>rfl
 | callQ f args=>
  refine Cont.of_eq (g:=fun F=>(callQV F (toFn (f.ev e)) (evs e args) m).bind fun v=>some (v,m)) (fun F=> ?_) (Cont.bind hc (cont_callQV hc _ _ m) fun p=>Cont.const fun _ _=>rfl)
  simp only [evOp]
  cases callQV F (toFn (f.ev e)) (evs e args) m<;>rfl
 | callN f args=>
  simp only [evOp]
  split
  ·split
   ·exact cont_callV hc cx slot false false _ _ m
   ·exact Cont.const fun _ _=>rfl
  ·exact Cont.const fun _ _=>rfl
 | callB i f args b=>exact cont_callBag hc (fun m=>cont_callV hc cx slot true i _ _ m) m _
 | callR i f args rs=>
  refine Cont.of_eq (g:=fun F=>(callV F cx slot true i (toFn (f.ev e)) (evs e args) m).bind fun p=>if keptV m p.2 (rs.map (get e))=true then some p else none) (fun F=> ?_) (Cont.bind hc (cont_callV hc cx slot true i _ _ m) fun p=>Cont.const fun _ _=>rfl)
  simp only [evOp]
  cases callV F cx slot true i (toFn (f.ev e)) (evs e args) m<;>rfl
 | _=>exact Cont.const fun _ _=>rfl
theorem cont_evOp1 (cx:Cx) (e:Env) (m:Mem) (o:CO):Cont It E (fun F=>evOp1 F cx e m o):=by
 obtain⟨dst,guard,op⟩:=o
 cases guard with
 | none=>exact cont_evOp hc cx _ e m op
 | some g=>
  obtain⟨t,want⟩:=g
  simp only [evOp1]
  split
  ·split
   ·exact cont_evOp hc cx _ e m op
   ·exact Cont.const fun _ _=>rfl
  ·exact Cont.const fun _ _=>rfl
  ·exact Cont.const fun _ _=>rfl
theorem cont_evOps (cx:Cx):∀(os:List CO) (e:Env) (m:Mem),Cont It E (fun F=>evOps F cx os e m)
 | [],e,m=>Cont.const fun _ _=>rfl
 | o::r,e,m=>by
  refine Cont.of_eq (g:=fun F=>(evOp1 F cx e m o).bind fun p=>evOps F cx r (put? e o.dst p.1) p.2) (fun F=> ?_) (Cont.bind hc (cont_evOp1 hc cx e m o) fun p=>cont_evOps cx r _ _)
  simp only [evOps]
  cases evOp1 F cx e m o<;>rfl
def loopSt:Res→Option (Ex×Env×Mem)
 | .st x e' m'=>some (x,e',m')
 | _=>none
def rangeEnd (cx:Cx) (i:Id) (e:Env):Res→Option (Ex×Env×Mem)
 | .val _ m'=>
  match look m' i with
  | some (.loop _ _ _ _ _ false _ j)=>
   if allLow cx.nx (idsAll (belowLv cx.nx m')) then
    let m2:=upd (belowLv cx.nx m') i .gone
    match j with
    | none=>some (.normal,e,m2)
    | some j=>some (j.ex,e,m2)
   else none
  | _=>none
 | _=>none
theorem cont_evC (cx:Cx):∀(c:C) (e:Env) (m:Mem),Cont It E (fun F=>evC F cx c e m)
 | .skip,e,m=>Cont.const fun _ _=>rfl
 | .label,e,m=>Cont.const fun _ _=>rfl
 | .exit _,e,m=>Cont.const fun _ _=>rfl
 | .ret,e,m=>Cont.const fun _ _=>rfl
 | .bad,e,m=>Cont.const fun _ _=>rfl
 | .scope c,e,m=>by simp only [evC];exact cont_evC cx c e m
 | .reg _ ops kill,e,m=>by
  refine Cont.of_eq (g:=fun F=>(evOps F cx ops e m).bind fun p=>some (.normal,without kill p.1,p.2)) (fun F=> ?_) (Cont.bind hc (cont_evOps hc cx ops e m) fun p=>Cont.const fun _ _=>rfl)
  simp only [evC]
  cases evOps F cx ops e m<;>rfl
 | .regC ops kill chk,e,m=>Cont.bind hc (cont_evOps hc cx ops e m) fun p=>Cont.const fun _ _=>rfl
 | .seq a b,e,m=>by
  refine Cont.of_eq (g:=fun F=>(evC F cx a e m).bind fun p=>match p with|(.normal,e',m')=>evC F cx b e' m'|p=>some p) (fun F=> ?_) (Cont.bind hc (cont_evC cx a e m) fun p=> ?_)
  ·simp only [evC]
   cases evC F cx a e m with
   | none=>rfl
   | some p=>obtain⟨x,e',m'⟩:=p;cases x<;>rfl
  ·obtain⟨x,e',m'⟩:=p
   cases x with
   | normal=>exact cont_evC cx b e' m'
   | _=>exact Cont.const fun _ _=>rfl
 | .cond c a b,e,m=>by
  simp only [evC]
  split
  ·exact cont_ite (cont_evC cx a e m) (cont_evC cx b e m)
  ·exact Cont.const fun _ _=>rfl
 | .block id c,e,m=>by
  refine Cont.of_eq (g:=fun F=>(evC F cx c e m).bind fun p=>match p with|(.exit j,e',m')=>if j=id then some (.normal,e',m') else some (.exit j,e',m')|p=>some p) (fun F=> ?_) (Cont.bind hc (cont_evC cx c e m) fun p=>Cont.const fun _ _=>rfl)
  simp only [evC]
  cases evC F cx c e m with
  | none=>rfl
  | some p=>obtain⟨x,e',m'⟩:=p;cases x<;>rfl
 | .loop live c,e,m=>by
  refine Cont.of_eq (g:=fun F=>(F (.loop cx live (keys m) c (only live e) (gc (keys m) (only live e) m))).bind loopSt) (fun F=> ?_) (Cont.bind hc (Cont.query hc _) fun p=>Cont.const fun _ _=>rfl)
  simp only [evC]
  cases F (.loop cx live (keys m) c (only live e) (gc (keys m) (only live e) m)) with
  | none=>rfl
  | some r=>cases r<;>rfl
 | .rangeM pre it x out nxt pair live ops kill code,e,m=>by
  simp only [evC]
  exact Cont.bind hc (cont_evOps hc cx pre e m) fun p=>cont_rangeMC hc (fun e m=>Cont.bind hc (cont_evOps hc cx ops e m) fun q=>cont_evC cx code _ _) _ _ _ _ _ _ _ _ _
 | .rangeFn slot f ps a b,e,m=>by
  simp only [evC]
  refine cont_ite ?_ (Cont.const fun _ _=>rfl)
  cases f.ev e with
  | fn g first caps=>
   refine Cont.of_eq (g:=fun F=>(F (.call cx.nx g (first ++[.yld (newId cx slot m)]++caps) (upd m (newId cx slot m) (.loop e ps a b cx.lv false false none)))).bind (rangeEnd cx (newId cx slot m) e)) (fun F=> ?_) (Cont.bind hc (Cont.query hc _) fun p=>Cont.const fun _ _=>rfl)
   simp only
   cases F (.call cx.nx g (first ++[.yld (newId cx slot m)]++caps) (upd m (newId cx slot m) (.loop e ps a b cx.lv false false none))) with
   | none=>rfl
   | some r=>cases r<;>rfl
  | _=>exact Cont.const fun _ _=>rfl
theorem cont_step (Γ:Nat→Option CF) (X:Extern) (q:Req):Cont It E (fun F=>step Γ X F q):=by
 cases q with
 | call lv f args m=>
  simp only [step]
  cases X f with
  | some x=>exact Cont.const fun _ _=>rfl
  | none=>
   cases Γ f with
   | none=>exact Cont.const fun _ _=>rfl
   | some cf=>
    refine Cont.of_eq (g:=fun F=>(evC F ⟨lv,lv+1⟩ cf.body (params 0 args) m).bind fun p=>match p with|(.normal,e,m')=>(results m' e cf.results).map fun v=> .val v m'|(.ret,e,m')=>(results m' e cf.results).map fun v=> .val v m'|_=>none) (fun F=> ?_) (Cont.bind hc (cont_evC hc _ _ _ _) fun p=>Cont.const fun _ _=>rfl)
    simp only
    cases evC F ⟨lv,lv+1⟩ cf.body (params 0 args) m with
    | none=>rfl
    | some p=>obtain⟨x,e',m'⟩:=p;cases x<;>rfl
 | round nx o args m=>
  simp only [step]
  split
  ·rename_i e ps a b lv j hl
   refine cont_ite ?_ (Cont.const fun _ _=>rfl)
   refine Cont.of_eq (g:=fun F=>(evC F ⟨lv,nx⟩ a (zipP ps args e) m).bind fun p=>match p with
    | (.normal,e1,m1)=>(match look m1 o with
     | some (.loop e' ps' a' b' lv' false false j')=>(evC F ⟨lv,nx⟩ b e1 (upd m1 o (.loop e' ps' a' b' lv' true false j'))).bind fun p=>match p with
      | (x,_,m2)=>match look m2 o with
       | some (.loop e' ps' a' b' lv' true false _)=>(match x with
        | .normal=>some (.val (.d (.bool true)) (gc (keys m) [] (upd m2 o (.loop e' ps' a' b' lv' false false none))))
        | .exit id=>some (.val (.d (.bool false)) (upd m2 o (.loop e' ps' a' b' lv' false true (some (.exit id)))))
        | .ret=>some (.val (.d (.bool false)) (upd m2 o (.loop e' ps' a' b' lv' false true (some .ret)))))
       | _=>none
     | _=>none)
    | _=>none) (fun F=> ?_) (Cont.bind hc (cont_evC hc _ _ _ _) fun p=> ?_)
   ·simp only
    cases evC F ⟨lv,nx⟩ a (zipP ps args e) m with
    | none=>rfl
    | some p=>
     obtain⟨x,e',m'⟩:=p
     cases x with
     | normal=>
      simp only [Option.bind]
      split
      ·rename_i e2 ps2 a2 b2 lv2 j2 hlk
       simp only [hlk]
       cases evC F ⟨lv,nx⟩ b e' (upd m' o (.loop e2 ps2 a2 b2 lv2 true false j2)) with
       | none=>rfl
       | some p=>rfl
      ·rename_i hno
       split
       ·rename_i hlk
        exact absurd hlk (hno _ _ _ _ _ _)
       ·rfl
     | exit id=>rfl
     | ret=>rfl
   ·obtain⟨x,e1,m1⟩:=p
    cases x with
    | normal=>
     simp only
     split
     ·exact Cont.bind hc (cont_evC hc _ _ _ _) fun p=>Cont.const fun _ _=>rfl
     ·exact Cont.const fun _ _=>rfl
    | _=>exact Cont.const fun _ _=>rfl
  ·exact Cont.const fun _ _=>rfl
 | loop cx live keep body e m=>
  simp only [step]
  refine Cont.of_eq (g:=fun F=>(evC F cx body e m).bind fun p=>match p with|(.normal,e',m')=>F (.loop cx live keep body (only live e') (gc keep (only live e') m'))|(x,e',m')=>some (.st x e' m')) (fun F=> ?_) (Cont.bind hc (cont_evC hc _ _ _ _) fun p=> ?_)
  ·cases evC F cx body e m with
   | none=>rfl
   | some p=>obtain⟨x,e',m'⟩:=p;cases x<;>rfl
  ·obtain⟨x,e',m'⟩:=p
   cases x with
   | normal=>exact Cont.query hc _
   | _=>exact Cont.const fun _ _=>rfl
end
structure Lim (Γ:Nat→Option CF) (X:Extern) (E:Oracle):Prop where
 fix:∀q,E q=step Γ X E q
 reach:∀q r,E q=some r→∃n,iter Γ X n q=some r
theorem step_mono {Γ:Nat→Option CF} {X:Extern} {F G:Oracle} (h:Le F G):Le (step Γ X F) (step Γ X G):=by
 have hc:Chain (fun _=>G) G:=⟨fun _ _ _ h=>h,fun _ _=>⟨fun h=>⟨0,h⟩,fun h=>h.elim fun _ h=>h⟩⟩
 exact fun q r hr=>(cont_step hc Γ X q).mono F G h r hr
theorem iter_up (Γ:Nat→Option CF) (X:Extern):∀n,Le (iter Γ X n) (iter Γ X (n+1))
 | 0=>fun _ _ h=>by simp [iter] at h
 | n+1=>step_mono (iter_up Γ X n)
theorem exists_lim (Γ:Nat→Option CF) (X:Extern):∃E,Lim Γ X E:=by
 have hd:∀q:Req,∃a:Option Res,∀r,a=some r↔∃n,iter Γ X n q=some r:=by
  intro q
  by_cases h:∃r,∃n,iter Γ X n q=some r
  ·obtain⟨r,n,hn⟩:=h
   refine⟨some r,fun r'=>⟨fun h=>⟨n,by rw [hn,h]⟩,fun⟨k,hk⟩=> ?_⟩⟩
   have up:∀a b,a≤b→Le (iter Γ X a) (iter Γ X b):=by
    intro a b hab
    induction hab with
    | refl=>exact fun _ _ h=>h
    | step _ ih=>exact fun q r hq=>iter_up Γ X _ q r (ih q r hq)
   rw [←up n (max n k) (Nat.le_max_left _ _) q r hn,up k (max n k) (Nat.le_max_right _ _) q r' hk]
  ·exact⟨none,fun r=>⟨fun h=>(nomatch h),fun hn=>absurd ⟨r,hn⟩ h⟩⟩
 have ⟨E,hE⟩:=Classical.axiomOfChoice hd
 have hc:Chain (iter Γ X) E:=⟨iter_up Γ X,hE⟩
 refine⟨E,⟨fun q=> ?_,fun q r h=>(hE q r).1 h⟩⟩
 apply Option.ext
 intro r
 constructor
 ·intro h
  obtain⟨n,hn⟩:=(hE q r).1 h
  cases n with
  | zero=>simp [iter] at hn
  | succ n=>exact step_mono (fun q r h=>(hE q r).2 ⟨n,h⟩) q r hn
 ·intro h
  obtain⟨n,hn⟩:=(cont_step hc Γ X q).reach r h
  exact(hE q r).2 ⟨n+1,hn⟩
theorem Lim.of_iter {Γ:Nat→Option CF} {X:Extern} {E:Oracle} (h:Lim Γ X E):∀(n:Nat) (q:Req) (r:Res),iter Γ X n q=some r→E q=some r
 | 0,_,_,hn=>by simp [iter] at hn
 | n+1,q,r,hn=>by
  rw [h.fix]
  exact step_mono (fun q r=>h.of_iter n q r) q r hn
end Go.Evl
namespace Go.Evl
structure Need (p k:Prop):Prop where
 need:p
 go:k
structure Br (t:Bool) (a b:Prop):Prop where
 yes:t=true→a
 no:t=false→b
structure Cmp (p a b:Prop):Prop where
 yes:p→a
 no:¬p→b
structure Wr (k:IntKind) (x:Int) (K:Int→Prop):Prop where
 go:K (k.wrap x)
structure Rem (a b:Int) (K:Int→Prop):Prop where
 ne:b≠0
 go:K (a.tmod b)
structure Quo (k:IntKind) (a b:Int) (K:Int→Prop):Prop where
 ne:b≠0
 go:K (k.wrap (a.tdiv b))
structure Pick (cs:List D) (off:Nat) (K:D→Prop):Prop where
 got:∃d,cs[off]? =some d∧K d
structure PickV (cs:List V) (off:Nat) (K:V→Prop):Prop where
 got:∃d,cs[off]? =some d∧K d
structure PickW (cs:List D) (off n:Nat) (K:List D→Prop):Prop where
 le:off+n≤cs.length
 go:K (win cs off n)
structure PickB (s:List UInt8) (i:Nat) (K:UInt8→Prop):Prop where
 got:∃b,s[i]? =some b∧K b
structure Some' {α:Type} (o:Option α) (K:α→Prop):Prop where
 got:∃a,o=some a∧K a
def Fc (E:Oracle) (f:Nat) (args:List V) (r:V):Prop:=∃v m',E (.call 0 f args [])=some (.val v m')∧thaw m' v=some r
structure CallI (E:Oracle) (f:Nat) (args:List V) (K:V→Prop):Prop where
 got:∃r,Fc E f args r∧K r
structure CallS (E:Oracle) (f:Nat) (args:List V) (cx:Cx) (slot:Nat) (m:Mem) (K:V→Mem→Prop):Prop where
 got:∃v m' p,E (.call 0 f args [])=some (.val v m')∧settle cx slot 0 m m' v=some p∧K p.1 p.2
structure In (E:Oracle) (lv f:Nat) (args:List V) (m:Mem) (K:V→Mem→Prop):Prop where
 got:∃v m',E (.call lv f args m)=some (.val v m')∧K v m'
structure Rnd (E:Oracle) (nx:Nat) (o:Id) (args:List V) (m:Mem) (K:V→Mem→Prop):Prop where
 got:∃v m',E (.round nx o args m)=some (.val v m')∧K v m'
structure LoopW (E:Oracle) (cx:Cx) (live:List Nat) (keep:List Id) (body:C) (e:Env) (m:Mem) (K:Ex→Env→Mem→Prop):Prop where
 got:∃x e' m',E (.loop cx live keep body e m)=some (.st x e' m')∧K x e' m'
structure Chk (b:Bool) (k:Prop):Prop where
 need:b=true
 go:k
structure Ret (a b:V):Prop where
 eq:a=b
def getK:Env→Nat→(V→Prop)→Prop
 | [],_,K=>K .undef
 | (u,v)::r,t,K=>match Nat.beq u t with
  | true=>K v
  | false=>getK r t K
theorem getK_eq:∀(e:Env) (t:Nat) (K:V→Prop),getK e t K=K (get e t)
 | [],_,_=>rfl
 | (u,v)::r,t,K=>by
  simp only [getK,get]
  cases h:Nat.beq u t with
  | true=>simp [Nat.eq_of_beq_eq_true h]
  | false=>
   have:u≠t:=fun hh=>by rw [hh,Nat.beq_refl] at h;cases h
   simp only [if_neg this]
   exact getK_eq r t K
def opK (e:Env) (x:Opd) (K:V→Prop):Prop:=
 match x with
 | .t n=>getK e n K
 | .k v=>K v
theorem opK_eq (e:Env) (x:Opd) (K:V→Prop):opK e x K=K (x.ev e):=by
 cases x with
 | t n=>exact getK_eq e n K
 | k v=>rfl
def evsK (e:Env):List Opd→(List V→Prop)→Prop
 | [],K=>K []
 | x::r,K=>opK e x fun v=>evsK e r fun vs=>K (v::vs)
theorem evsK_eq (e:Env):∀(l:List Opd) (K:List V→Prop),evsK e l K=K (evs e l)
 | [],_=>rfl
 | x::r,K=>by simp only [evsK,evs,opK_eq,evsK_eq e r]
def getsK (e:Env):List Nat→(List V→Prop)→Prop
 | [],K=>K []
 | t::r,K=>getK e t fun v=>getsK e r fun vs=>K (v::vs)
theorem getsK_eq (e:Env):∀(l:List Nat) (K:List V→Prop),getsK e l K=K (l.map (get e))
 | [],_=>rfl
 | t::r,K=>by simp only [getsK,getK_eq,getsK_eq e r,List.map_cons]
def opK? (e:Env) (x:Option Opd) (K:Option V→Prop):Prop:=
 match x with
 | none=>K none
 | some x=>opK e x fun v=>K (some v)
theorem opK?_eq (e:Env) (x:Option Opd) (K:Option V→Prop):opK? e x K=K (x.map (·.ev e)):=by
 cases x with
 | none=>rfl
 | some x=>exact opK_eq e x _
def putK:Env→Nat→V→(Env→Prop)→Prop
 | [],t,v,K=>K [(t,v)]
 | (u,x)::r,t,v,K=>match Nat.beq u t with
  | true=>K ((t,v)::r)
  | false=>putK r t v fun r'=>K ((u,x)::r')
theorem putK_eq:∀(e:Env) (t:Nat) (v:V) (K:Env→Prop),putK e t v K=K (put e t v)
 | [],_,_,_=>rfl
 | (u,x)::r,t,v,K=>by
  simp only [putK,put]
  cases h:Nat.beq u t with
  | true=>simp [Nat.eq_of_beq_eq_true h]
  | false=>
   have:u≠t:=fun hh=>by rw [hh,Nat.beq_refl] at h;cases h
   simp only [if_neg this]
   exact putK_eq r t v _
def put?K (e:Env) (t:Option Nat) (v:V) (K:Env→Prop):Prop:=
 match t with
 | none=>K e
 | some t=>putK e t v K
theorem put?K_eq (e:Env) (t:Option Nat) (v:V) (K:Env→Prop):put?K e t v K=K (put? e t v):=by
 cases t with
 | none=>rfl
 | some t=>exact putK_eq e t v K
def memN:List Nat→Nat→Bool
 | [],_=>false
 | u::r,t=>match Nat.beq u t with
  | true=>true
  | false=>memN r t
theorem memN_eq:∀(l:List Nat) (t:Nat),memN l t=l.elem t
 | [],_=>rfl
 | u::r,t=>by
  simp only [memN]
  cases h:Nat.beq u t with
  | true=>simp [Nat.eq_of_beq_eq_true h]
  | false=>
   have:t≠u:=fun hh=>by rw [hh,Nat.beq_refl] at h;cases h
   simp only [memN_eq r t,List.elem_cons]
   have:(t==u)=false:=by simpa using this
   rw [this]
def withoutK (kill:List Nat):Env→(Env→Prop)→Prop
 | [],K=>K []
 | (u,v)::r,K=>match memN kill u with
  | true=>withoutK kill r K
  | false=>withoutK kill r fun r'=>K ((u,v)::r')
theorem withoutK_eq (kill:List Nat):∀(e:Env) (K:Env→Prop),withoutK kill e K=K (without kill e)
 | [],_=>rfl
 | (u,v)::r,K=>by
  simp only [withoutK,memN_eq]
  cases h:kill.elem u with
  | true=>
   have hm:u∈kill:=by simpa using h
   simp only [withoutK_eq kill r];simp [without,hm]
  | false=>
   have hm:u∉kill:=by simpa using h
   simp only [withoutK_eq kill r];simp [without,hm]
def onlyK (e:Env):List Nat→(Env→Prop)→Prop
 | [],K=>K []
 | t::r,K=>getK e t fun v=>onlyK e r fun r'=>K ((t,v)::r')
theorem onlyK_eq (e:Env):∀(live:List Nat) (K:Env→Prop),onlyK e live K=K (only live e)
 | [],_=>rfl
 | t::r,K=>by simp only [onlyK,getK_eq,onlyK_eq e r];rfl
def idB (i j:Id):Bool:=
 match Nat.beq i.slot j.slot with
 | true=>(match Nat.beq i.lv j.lv with
  | true=>Nat.beq i.k j.k
  | false=>false)
 | false=>false
theorem idB_true {i j:Id} (h:idB i j=true):i=j:=by
 obtain⟨a,b,c⟩:=i
 obtain⟨x,y,z⟩:=j
 simp only [idB] at h
 split at h
 ·rename_i h1
  split at h
  ·rename_i h2
   rw [Nat.eq_of_beq_eq_true h1,Nat.eq_of_beq_eq_true h2,Nat.eq_of_beq_eq_true h]
  ·cases h
 ·cases h
theorem idB_false {i j:Id} (h:idB i j=false):i≠j:=by
 rintro rfl
 obtain⟨a,b,c⟩:=i
 simp [idB,Nat.beq_refl] at h
def lookK:Mem→Id→(Option Ob→Prop)→Prop
 | [],_,K=>K none
 | (j,o)::r,i,K=>match idB j i with
  | true=>K (some o)
  | false=>lookK r i K
theorem lookK_eq:∀(m:Mem) (i:Id) (K:Option Ob→Prop),lookK m i K=K (look m i)
 | [],_,_=>rfl
 | (j,o)::r,i,K=>by
  simp only [lookK,look]
  cases h:idB j i with
  | true=>simp [idB_true h]
  | false=>simp only [if_neg (idB_false h)];exact lookK_eq r i K
def updK:Mem→Id→Ob→(Mem→Prop)→Prop
 | [],i,o,K=>K [(i,o)]
 | (j,x)::r,i,o,K=>match idB j i with
  | true=>K ((i,o)::r)
  | false=>updK r i o fun r'=>K ((j,x)::r')
theorem updK_eq:∀(m:Mem) (i:Id) (o:Ob) (K:Mem→Prop),updK m i o K=K (upd m i o)
 | [],_,_,_=>rfl
 | (j,x)::r,i,o,K=>by
  simp only [updK,upd]
  cases h:idB j i with
  | true=>simp [idB_true h]
  | false=>simp only [if_neg (idB_false h)];exact updK_eq r i o _
def memI:List Id→Id→Bool
 | [],_=>false
 | u::r,t=>match idB u t with
  | true=>true
  | false=>memI r t
theorem memI_eq:∀(l:List Id) (t:Id),memI l t=l.elem t
 | [],_=>rfl
 | u::r,t=>by
  simp only [memI]
  cases h:idB u t with
  | true=>simp [idB_true h]
  | false=>
   have h':t≠u:=fun hh=>idB_false h hh.symm
   simp only [memI_eq r t,List.elem_cons]
   have:(t==u)=false:=by simpa using h'
   rw [this]
def gcF (a b c:List Id):Mem→(Mem→Prop)→Prop
 | [],K=>K []
 | (i,o)::r,K=>match memI a i with
  | true=>gcF a b c r fun r'=>K ((i,o)::r')
  | false=>(match memI b i with
   | true=>gcF a b c r fun r'=>K ((i,o)::r')
   | false=>(match memI c i with
    | true=>gcF a b c r fun r'=>K ((i,o)::r')
    | false=>gcF a b c r K))
theorem gcF_eq (a b c:List Id):∀(m:Mem) (K:Mem→Prop),gcF a b c m K=K (m.filter fun p=>a.elem p.1||b.elem p.1||c.elem p.1)
 | [],_=>rfl
 | (i,o)::r,K=>by
  simp only [gcF,memI_eq]
  cases ha:a.elem i<;>cases hb:b.elem i<;>cases hc:c.elem i<;>simp only [gcF_eq a b c r,List.filter_cons,ha,hb,hc]<;>rfl
def gcK (keep:List Id) (e:Env) (m:Mem) (K:Mem→Prop):Prop:=
 match m with
 | []=>K []
 | _::_=>gcF keep (idsE e) (idsAll m) m fun m1=>gcF keep (idsE e) (idsAll m1) m1 fun m2=>gcF keep (idsE e) (idsAll m2) m2 K
theorem gcK_eq (keep:List Id) (e:Env) (m:Mem) (K:Mem→Prop):gcK keep e m K=K (gc keep e m):=by
 cases m with
 | nil=>rfl
 | cons p r=>simp only [gcK,gcF_eq];rfl
def freeNK (lv slot:Nat):Mem→(Nat→Prop)→Prop
 | [],K=>K 0
 | (j,_)::r,K=>match Nat.beq j.slot slot with
  | true=>(match Nat.beq j.lv lv with
   | true=>freeNK lv slot r fun n=>K (max (j.k+1) n)
   | false=>freeNK lv slot r K)
  | false=>freeNK lv slot r K
theorem freeNK_eq (lv slot:Nat):∀(m:Mem) (K:Nat→Prop),freeNK lv slot m K=K (freeK lv slot m)
 | [],_=>rfl
 | (j,o)::r,K=>by
  simp only [freeNK,freeK]
  cases h1:Nat.beq j.slot slot with
  | false=>
   have:j.slot≠slot:=fun hh=>by rw [hh,Nat.beq_refl] at h1;cases h1
   simp only [this,and_false,if_false]
   exact freeNK_eq lv slot r K
  | true=>
   cases h2:Nat.beq j.lv lv with
   | false=>
    have:j.lv≠lv:=fun hh=>by rw [hh,Nat.beq_refl] at h2;cases h2
    simp only [this,false_and,if_false]
    exact freeNK_eq lv slot r K
   | true=>simp only [Nat.eq_of_beq_eq_true h1,Nat.eq_of_beq_eq_true h2,and_self,if_true,freeNK_eq lv slot r]
def newK (cx:Cx) (slot:Nat) (m:Mem) (K:Id→Prop):Prop:=freeNK cx.lv slot m fun n=>K ⟨cx.lv,slot,n⟩
theorem newK_eq (cx:Cx) (slot:Nat) (m:Mem) (K:Id→Prop):newK cx slot m K=K (newId cx slot m):=freeNK_eq _ _ _ _
def initK (cx:Cx) (slot:Nat):List Init→Mem→(List V→Mem→Prop)→Prop
 | [],m,K=>K [] m
 | .z x::r,m,K=>initK cx slot r m fun vs m'=>K (.d x::vs) m'
 | .own s::r,m,K=>newK cx slot m fun i=>updK m i (.row s.wr s.t s.sz 0 []) fun m1=>initK cx slot r m1 fun vs m'=>K (.ref i 0 0 0::vs) m'
theorem initK_eq (cx:Cx) (slot:Nat):∀(l:List Init) (m:Mem) (K:List V→Mem→Prop),initK cx slot l m K=K (initCells cx slot l m).1 (initCells cx slot l m).2
 | [],_,_=>rfl
 | .z x::r,m,K=>by simp only [initK,initCells,initK_eq cx slot r]
 | .own s::r,m,K=>by simp only [initK,initCells,newK_eq,updK_eq,initK_eq cx slot r]
mutual
def freezeW (any:Bool) (m:Mem):V→(D→Prop)→Prop
 | .d x,K=>K x
 | .agg cs,K=>freezeLW any m cs fun ds=>K (.agg ds)
 | .fn f [] [],K=>K (.fn f)
 | .ref o off len top,K=>lookK m o fun x=>
  match x with
  | some (.row wr _ sz n xs)=>
   (match (!wr||any) with
   | true=>Need (n=top∧off+len≤n) (K (.list len (if off=0∧len=n then xs else win xs (off*sz) (len*sz))))
   | false=>False)
  | _=>False
 | _,_=>False
def freezeLW (any:Bool) (m:Mem):List V→(List D→Prop)→Prop
 | [],K=>K []
 | v::r,K=>freezeW any m v fun d=>freezeLW any m r fun ds=>K (d::ds)
end
mutual
theorem freezeW_ok (any:Bool) (m:Mem):∀(v:V) (K:D→Prop),freezeW any m v K→∃d,freeze any m v=some d∧K d
 | .d x,K,h=>⟨x,rfl,h⟩
 | .agg cs,K,h=>by
  obtain⟨ds,h1,h2⟩:=freezeLW_ok any m cs _ h
  exact⟨_,by simp only [freeze,h1];rfl,h2⟩
 | .ref o off len top,K,h=>by
  simp only [freezeW,lookK_eq] at h
  simp only [freeze]
  cases hl:look m o with
  | none=>rw [hl] at h;exact h.elim
  | some x=>
   rw [hl] at h
   cases x with
   | row wr t sz n xs=>
    simp only at h ⊢
    split at h
    ·rename_i hw
     have hc:(wr=false∨any=true)∧n=top∧off+len≤n:=⟨by cases wr<;>simp_all,h.need⟩
     exact⟨_,if_pos hc,h.go⟩
    ·exact h.elim
   | _=>exact h.elim
 | .tup _,_,h=>(by simp only [freezeW] at h)
 | .ptr ..,_,h=>(by simp only [freezeW] at h)
 | .lptr ..,_,h=>(by simp only [freezeW] at h)
 | .fn f [] [],K,h=>⟨_,rfl,h⟩
 | .fn _ (_::_) _,_,h=>(by simp only [freezeW] at h)
 | .fn _ [] (_::_),_,h=>(by simp only [freezeW] at h)
 | .yld _,_,h=>(by simp only [freezeW] at h)
 | .mp _,_,h=>(by simp only [freezeW] at h)
 | .it _,_,h=>(by simp only [freezeW] at h)
 | .skip,_,h=>(by simp only [freezeW] at h)
 | .undef,_,h=>(by simp only [freezeW] at h)
theorem freezeLW_ok (any:Bool) (m:Mem):∀(vs:List V) (K:List D→Prop),freezeLW any m vs K→∃ds,freezeL any m vs=some ds∧K ds
 | [],K,h=>⟨[],rfl,h⟩
 | v::r,K,h=>by
  obtain⟨d,h1,h2⟩:=freezeW_ok any m v _ h
  obtain⟨ds,h3,h4⟩:=freezeLW_ok any m r _ h2
  exact⟨d::ds,by simp only [freezeL,h1,h3],h4⟩
end
def asVK:List D→(List V→Prop)→Prop
 | [],K=>K []
 | x::r,K=>asVK r fun vs=>K (.d x::vs)
theorem asVK_eq:∀(l:List D) (K:List V→Prop),asVK l K=K (asV l)
 | [],_=>rfl
 | x::r,K=>by simp only [asVK,asV,asVK_eq r]
def thawW (m:Mem) (v:V) (K:V→Prop):Prop:=
 match v with
 | .tup vs=>freezeLW true m vs fun xs=>asVK xs fun ys=>K (.tup ys)
 | v=>freezeW true m v fun d=>K (.d d)
theorem thawW_ok (m:Mem) (v:V) (K:V→Prop) (h:thawW m v K):∃r,thaw m v=some r∧K r:=by
 have simple:∀v:V,(∀vs,v≠ .tup vs)→freezeW true m v (fun d=>K (.d d))→∃r,thaw m v=some r∧K r:=by
  intro v hv h
  obtain⟨d,h1,h2⟩:=freezeW_ok true m v _ h
  refine⟨.d d,?_,h2⟩
  unfold thaw
  split
  ·rename_i vs;exact absurd rfl (hv vs)
  ·rw [h1];rfl
 cases v with
 | tup vs=>
  obtain⟨xs,h1,h2⟩:=freezeLW_ok true m vs _ h
  rw [asVK_eq] at h2
  exact⟨_,by simp only [thaw,h1];rfl,h2⟩
 | _=>exact simple _ (by intro vs hh;cases hh) h
def allDK:List V→(Option (List D)→Prop)→Prop
 | [],K=>K (some [])
 | .d x::r,K=>allDK r fun o=>
  match o with
  | some ds=>K (some (x::ds))
  | none=>K none
 | _::_,K=>K none
theorem allDK_eq:∀(l:List V) (K:Option (List D)→Prop),allDK l K=K (allD l)
 | [],_=>rfl
 | v::r,K=>by
  cases v with
  | d x=>simp only [allDK,allD,allDK_eq r];cases allD r<;>rfl
  | _=>rfl
def aggK (cs:List V) (K:V→Prop):Prop:=allDK cs fun o=>
 match o with
 | some ds=>K (.d (.agg ds))
 | none=>K (.agg cs)
theorem aggK_eq (cs:List V) (K:V→Prop):aggK cs K=K (mkAgg cs):=by
 simp only [aggK,allDK_eq,mkAgg]
 cases allD cs<;>rfl
def cellsW (v:V) (K:List V→Prop):Prop:=
 match v with
 | .d (.agg cs)=>asVK cs K
 | .agg cs=>K cs
 | .tup _=>False
 | .skip=>False
 | .undef=>False
 | v=>K [v]
theorem cellsW_ok (v:V) (K:List V→Prop) (h:cellsW v K):∃cs,cellsOf v=some cs∧K cs:=by
 cases v with
 | d x=>
  cases x with
  | agg cs=>simp only [cellsW,asVK_eq] at h;exact⟨_,rfl,h⟩
  | _=>exact⟨_,rfl,h⟩
 | tup _=>exact h.elim
 | skip=>exact h.elim
 | undef=>exact h.elim
 | _=>exact⟨_,rfl,h⟩
def over {α:Type}:List α→Nat→List α→List α
 | cs,0,[]=>cs
 | _::cs,0,x::xs=>x::over cs 0 xs
 | c::cs,n+1,xs=>c::over cs n xs
 | [],_,_=>[]
theorem over_zero {α:Type}:∀(cs xs:List α),xs.length≤cs.length→over cs 0 xs=xs++cs.drop xs.length
 | cs,[],_=>by simp [over]
 | [],x::xs,h=>by simp at h
 | c::cs,x::xs,h=>by
  simp only [over,over_zero cs xs (by simpa using h)]
  simp
theorem over_eq {α:Type}:∀(cs:List α) (off:Nat) (xs:List α),off+xs.length≤cs.length→over cs off xs=patch cs off xs
 | cs,0,xs,h=>by
  rw [over_zero cs xs (by omega)]
  simp [patch]
 | [],n+1,xs,h=>by simp at h
 | c::cs,n+1,xs,h=>by
  simp only [over,over_eq cs n xs (by simp at h;omega),patch]
  simp [Nat.add_right_comm]
def overK {α:Type}:List α→Nat→List α→(List α→Prop)→Prop
 | cs,0,[],K=>K cs
 | _::cs,0,x::xs,K=>overK cs 0 xs fun r=>K (x::r)
 | c::cs,n+1,xs,K=>overK cs n xs fun r=>K (c::r)
 | [],_,_,K=>K []
theorem overK_eq {α:Type}:∀(cs:List α) (off:Nat) (xs:List α) (K:List α→Prop),overK cs off xs K=K (over cs off xs)
 | cs,0,[],K=>by simp only [overK,over]
 | [],0,x::xs,K=>by simp only [overK,over]
 | c::cs,0,x::xs,K=>by simp only [overK,over,overK_eq cs 0 xs]
 | [],n+1,xs,K=>by simp only [overK,over]
 | c::cs,n+1,xs,K=>by simp only [overK,over,overK_eq cs n xs]
def fillW (cs:List V):List (Nat×Nat×V)→(List V→Prop)→Prop
 | [],K=>K cs
 | (off,n,v)::r,K=>cellsW v fun xs=>
  match Nat.beq xs.length n with
  | true=>(match Nat.ble (off+n) cs.length with
   | true=>overK cs off xs fun cs'=>fillW cs' r K
   | false=>False)
  | false=>False
theorem fillW_ok:∀(l:List (Nat×Nat×V)) (cs:List V) (K:List V→Prop),fillW cs l K→∃cs',fillV cs l=some cs'∧K cs'
 | [],cs,K,h=>⟨cs,rfl,h⟩
 | (off,n,v)::r,cs,K,h=>by
  obtain⟨xs,h1,h2⟩:=cellsW_ok v _ h
  split at h2
  ·rename_i e1
   split at h2
   ·rename_i e2
    have e1':=Nat.eq_of_beq_eq_true e1
    have e2':=Nat.le_of_ble_eq_true e2
    rw [overK_eq] at h2
    obtain⟨cs',h3,h4⟩:=fillW_ok r _ K h2
    refine⟨cs',?_,h4⟩
    simp only [fillV,h1]
    rw [if_pos ⟨e1',e2'⟩,←over_eq cs off xs (by omega)]
    exact h3
   ·exact h2.elim
  ·exact h2.elim
def partsK (e:Env):List (Nat×Nat×Opd)→(List (Nat×Nat×V)→Prop)→Prop
 | [],K=>K []
 | (a,b,x)::r,K=>opK e x fun v=>partsK e r fun l=>K ((a,b,v)::l)
theorem partsK_eq (e:Env):∀(l:List (Nat×Nat×Opd)) (K:List (Nat×Nat×V)→Prop),partsK e l K=K (partsV e l)
 | [],_=>rfl
 | (a,b,x)::r,K=>by simp only [partsK,partsV,opK_eq,partsK_eq e r]
def cellsDW (m:Mem) (v:V) (K:List D→Prop):Prop:=freezeW false m v fun d=>
 match d with
 | .agg cs=>K cs
 | x=>K [x]
theorem cellsDW_ok (m:Mem) (v:V) (K:List D→Prop) (h:cellsDW m v K):∃cs,cellsD m v=some cs∧K cs:=by
 obtain⟨d,h1,h2⟩:=freezeW_ok false m v _ h
 unfold cellsD
 rw [h1]
 cases d<;>exact⟨_,rfl,h2⟩
def listDW (sz:Nat) (m:Mem):List V→(List D→Prop)→Prop
 | [],K=>K []
 | v::r,K=>cellsDW m v fun x=>match Nat.beq x.length sz with
  | true=>listDW sz m r fun xs=>K (x++xs)
  | false=>False
theorem listDW_ok (sz:Nat) (m:Mem):∀(l:List V) (K:List D→Prop),listDW sz m l K→∃ds,listD sz m l=some ds∧K ds
 | [],K,h=>⟨[],rfl,h⟩
 | v::r,K,h=>by
  obtain⟨x,h1,h2⟩:=cellsDW_ok m v _ h
  split at h2
  ·rename_i e
   obtain⟨xs,h3,h4⟩:=listDW_ok sz m r _ h2
   refine⟨x++xs,?_,h4⟩
   simp only [listD,h1,h3,if_pos (Nat.eq_of_beq_eq_true e)]
  ·exact h2.elim
structure Bounds (n:Nat) (l h:Int) (K:Nat→Nat→Prop):Prop where
 ok:0≤h∧h≤n∧0≤l∧l≤h
 go:K l.toNat h.toNat
def boundsW (n:Nat) (lo hi:Option V) (K:Nat→Nat→Prop):Prop:=
 match lo,hi with
 | none,none=>K 0 n
 | some (.d (.int _ l)),none=>Bounds n l n K
 | none,some (.d (.int _ h))=>Bounds n 0 h K
 | some (.d (.int _ l)),some (.d (.int _ h))=>Bounds n l h K
 | _,_=>False
theorem boundsW_ok (n:Nat) (lo hi:Option V) (K:Nat→Nat→Prop) (h:boundsW n lo hi K):∃p,sliceBoundsV n lo hi=some p∧K p.1 p.2:=by
 unfold boundsW at h
 split at h
 ·refine⟨(0,n),?_,h⟩
  simp [sliceBoundsV]
 ·rename_i k l
  refine⟨(l.toNat,(n:Int).toNat),?_,h.go⟩
  simp only [sliceBoundsV,asI]
  exact if_pos h.ok
 ·rename_i k l
  refine⟨((0:Int).toNat,l.toNat),?_,h.go⟩
  simp only [sliceBoundsV,asI]
  exact if_pos h.ok
 ·rename_i k l k' l'
  refine⟨(l.toNat,l'.toNat),?_,h.go⟩
  simp only [sliceBoundsV,asI]
  exact if_pos h.ok
 ·exact h.elim
def pickVW (n:Option Nat) (cs:List V) (off:Nat) (K:V→Prop):Prop:=
 match n with
 | none=>PickV cs off K
 | some n=>Need (off+n≤cs.length) (aggK (win cs off n) K)
theorem pickVW_ok (n:Option Nat) (cs:List V) (off:Nat) (K:V→Prop) (h:pickVW n cs off K):∃v,pickV n cs off=some v∧K v:=by
 cases n with
 | none=>obtain⟨d,h1,h2⟩:=h.got;exact⟨d,h1,h2⟩
 | some n=>obtain⟨h1,h2⟩:=h;rw [aggK_eq] at h2;exact⟨_,if_pos h1,h2⟩
def pickDW (n:Option Nat) (cs:List D) (off:Nat) (K:V→Prop):Prop:=
 match n with
 | none=>Pick cs off fun d=>K (.d d)
 | some n=>PickW cs off n fun ds=>K (.d (.agg ds))
theorem pickDW_ok (n:Option Nat) (cs:List D) (off:Nat) (K:V→Prop) (h:pickDW n cs off K):∃v,pickD n cs off=some v∧K v:=by
 cases n with
 | none=>obtain⟨d,h1,h2⟩:=h.got;exact⟨_,by simp only [pickD,h1];rfl,h2⟩
 | some n=>obtain⟨h1,h2⟩:=h;exact⟨_,if_pos h1,h2⟩
def loadW (n:Option Nat) (m:Mem) (a:V) (K:V→Prop):Prop:=
 match a with
 | .lptr cs off=>pickDW n cs off K
 | .ptr o off top=>lookK m o fun x=>
  match x with
  | some (.cells _ cs)=>pickVW n cs off K
  | some (.row _ _ _ l xs)=>Need (l=top) (pickDW n xs off K)
  | _=>False
 | _=>False
theorem loadW_ok (n:Option Nat) (m:Mem) (a:V) (K:V→Prop) (h:loadW n m a K):∃v,loadV n m a=some v∧K v:=by
 unfold loadW at h
 split at h
 ·exact pickDW_ok _ _ _ _ h
 ·rename_i o off top
  rw [lookK_eq] at h
  simp only [loadV]
  split at h
  ·rename_i hl;rw [hl];exact pickVW_ok _ _ _ _ h
  ·rename_i hl;rw [hl]
   obtain⟨v,h1,h2⟩:=pickDW_ok _ _ _ _ h.go
   exact⟨v,(if_pos h.need).trans h1,h2⟩
  ·exact h.elim
 ·exact h.elim
def storeW (n:Nat) (m:Mem) (a x:V) (K:Mem→Prop):Prop:=
 match a with
 | .ptr o off top=>lookK m o fun y=>
  match y with
  | some (.cells t cs)=>cellsW x fun xs=>Need (xs.length=n∧off+n≤cs.length) (overK cs off xs fun cs'=>updK m o (.cells t cs') K)
  | some (.row true t sz l xs)=>cellsDW m x fun ds=>Need (ds.length=n∧off+n≤xs.length∧l=top) (updK m o (.row true t sz l (patch xs off ds)) K)
  | _=>False
 | _=>False
theorem storeW_ok (n:Nat) (m:Mem) (a x:V) (K:Mem→Prop) (h:storeW n m a x K):∃m',storeV n m a x=some m'∧K m':=by
 unfold storeW at h
 split at h
 ·rename_i o off top
  rw [lookK_eq] at h
  simp only [storeV]
  split at h
  ·rename_i hl;rw [hl]
   obtain⟨xs,h1,h2,h3⟩:=cellsW_ok x _ h
   rw [overK_eq,updK_eq,over_eq _ _ _ (by omega)] at h3
   simp only [h1]
   exact⟨_,if_pos h2,h3⟩
  ·rename_i hl;rw [hl]
   obtain⟨ds,h1,h2,h3⟩:=cellsDW_ok m x _ h
   rw [updK_eq] at h3
   simp only [h1]
   exact⟨_,if_pos h2,h3⟩
  ·exact h.elim
 ·exact h.elim
def sliceW (sz:Nat) (m:Mem) (x:V) (lo hi mx:Option V) (K:V→Prop):Prop:=
 match x with
 | .d (.list n cs)=>boundsW n lo hi fun l h=>
  match mx with
  | none=>K (.d (.list (h-l) (win cs (l*sz) ((h-l)*sz))))
  | some _=>Need (hi.isSome∧mx.bind asI=hi.bind asI) (K (.d (.list (h-l) (win cs (l*sz) ((h-l)*sz)))))
 | .ref o off len top=>lookK m o fun y=>
  match y with
  | some (.row wr _ sz' n xs)=>Need (n=top∧off+len≤n∧sz'=sz) (boundsW len lo hi fun l h=>
   match mx with
   | none=>(match wr with
    | true=>K (.ref o (off+l) (h-l) top)
    | false=>K (.d (.list (h-l) (win xs ((off+l)*sz) ((h-l)*sz)))))
   | some _=>False)
  | _=>False
 | .d .nil=>boundsW 0 lo hi fun _ _=>
  match mx with
  | none=>K (.d .nil)
  | some _=>False
 | _=>False
theorem sliceW_ok (sz:Nat) (m:Mem) (x:V) (lo hi mx:Option V) (K:V→Prop) (h:sliceW sz m x lo hi mx K):∃v,sliceV sz m x lo hi mx=some v∧K v:=by
 unfold sliceW at h
 split at h
 ·obtain⟨p,h1,h2⟩:=boundsW_ok _ _ _ _ h
  obtain⟨l,hh⟩:=p
  simp only [sliceV,h1]
  cases mx with
  | none=>exact⟨_,if_pos (Or.inl rfl),h2⟩
  | some y=>exact⟨_,if_pos (Or.inr h2.need),h2.go⟩
 ·rename_i o off len top
  rw [lookK_eq] at h
  simp only [sliceV]
  split at h
  ·rename_i wr t1 sz1 n1 xs1 hl;rw [hl]
   obtain⟨h0,h⟩:=h
   obtain⟨p,h1,h2⟩:=boundsW_ok _ _ _ _ h
   obtain⟨l,hh⟩:=p
   simp only [if_pos h0,h1]
   cases mx with
   | none=>
    cases wr with
    | true=>exact⟨_,by simp,h2⟩
    | false=>exact⟨_,by simp,h2⟩
   | some y=>exact h2.elim
  ·exact h.elim
 ·obtain⟨p,h1,h2⟩:=boundsW_ok _ _ _ _ h
  simp only [sliceV,h1]
  cases mx with
  | none=>exact⟨_,if_pos rfl,h2⟩
  | some y=>exact h2.elim
 ·exact h.elim
def idxAddrW (sz:Nat) (m:Mem) (x i:V) (K:V→Prop):Prop:=
 match i with
 | .d (.int _ i)=>
  (match x with
  | .d (.list n cs)=>Need (0≤i∧i<n) (K (.lptr cs (i.toNat*sz)))
  | .ref o off len top=>lookK m o fun y=>
   match y with
   | some (.row _ _ sz' n _)=>Need (0≤i∧i<len∧n=top∧off+len≤n∧sz'=sz) (K (.ptr o ((off+i.toNat)*sz) top))
   | _=>False
  | _=>False)
 | _=>False
theorem idxAddrW_ok (sz:Nat) (m:Mem) (x i:V) (K:V→Prop) (h:idxAddrW sz m x i K):∃v,idxAddrV sz m x i=some v∧K v:=by
 unfold idxAddrW at h
 split at h
 ·split at h
  ·exact⟨_,if_pos h.need,h.go⟩
  ·rw [lookK_eq] at h
   split at h
   ·rename_i hl;simp only [idxAddrV,asI,hl];exact⟨_,if_pos h.need,h.go⟩
   ·exact h.elim
  ·exact h.elim
 ·exact h.elim
def moveW (off:Nat) (m:Mem) (v:V) (K:V→Prop):Prop:=
 match v with
 | .lptr cs b=>K (.lptr cs (b+off))
 | .ptr o b top=>lookK m o fun x=>
  match x with
  | some (.cells ..)=>K (.ptr o (b+off) top)
  | some (.row _ _ _ n _)=>Need (n=top) (K (.ptr o (b+off) top))
  | _=>False
 | _=>False
theorem moveW_ok (off:Nat) (m:Mem) (v:V) (K:V→Prop) (h:moveW off m v K):∃r,moveAddr off m v=some r∧K r:=by
 unfold moveW at h
 split at h
 ·exact⟨_,rfl,h⟩
 ·rw [lookK_eq] at h
  split at h
  ·rename_i hl;exact⟨_,by simp only [moveAddr,sure,hl];rfl,h⟩
  ·rename_i hl;exact⟨_,by simp only [moveAddr,sure,hl,h.need];simp,h.go⟩
  ·exact h.elim
 ·exact h.elim
def partW (n:Option Nat) (x:V) (off:Nat) (K:V→Prop):Prop:=
 match x with
 | .d (.agg cs)=>pickDW n cs off K
 | .agg cs=>pickVW n cs off K
 | _=>False
theorem partW_ok (n:Option Nat) (x:V) (off:Nat) (K:V→Prop) (h:partW n x off K):∃r,partV n x off=some r∧K r:=by
 unfold partW at h
 split at h
 ·exact pickDW_ok _ _ _ _ h
 ·exact pickVW_ok _ _ _ _ h
 ·exact h.elim
def lenW (m:Mem) (k:Kd) (v:V) (K:Nat→Prop):Prop:=
 match k with
 | .str=>(match v with
  | .d (.str s)=>K s.length
  | _=>False)
 | .slc=>(match v with
  | .d (.list n _)=>K n
  | .d .nil=>K 0
  | .ref o _ len top=>lookK m o fun x=>
   match x with
   | some (.row _ _ _ n _)=>Need (n=top) (K len)
   | _=>False
  | _=>False)
 | .map=>(match v with
  | .mp o=>lookK m o fun x=>
   match x with
   | some (.map es)=>K es.length
   | _=>False
  | _=>False)
 | .cap=>(match v with
  | .d .nil=>K 0
  | _=>False)
theorem lenW_ok (m:Mem) (k:Kd) (v:V) (K:Nat→Prop) (h:lenW m k v K):∃n,lenV m k v=some n∧K n:=by
 unfold lenW at h
 split at h
 ·split at h
  ·exact⟨_,rfl,h⟩
  ·exact h.elim
 ·split at h
  ·exact⟨_,rfl,h⟩
  ·exact⟨_,rfl,h⟩
  ·rw [lookK_eq] at h
   split at h
   ·rename_i hl;exact⟨_,by simp only [lenV,hl];exact if_pos h.need,h.go⟩
   ·exact h.elim
  ·exact h.elim
 ·split at h
  ·rw [lookK_eq] at h
   split at h
   ·rename_i hl;exact⟨_,by simp only [lenV,hl],h⟩
   ·exact h.elim
  ·exact h.elim
 ·split at h
  ·exact⟨_,rfl,h⟩
  ·exact h.elim
def elemsW (m:Mem) (v:V) (K:Nat→List D→Prop):Prop:=
 match v with
 | .d (.list n cs)=>K n cs
 | .d .nil=>K 0 []
 | .ref o off len top=>lookK m o fun x=>
  match x with
  | some (.row _ _ sz n xs)=>Need (n=top∧off+len≤n) (K len (if off=0∧len=n then xs else win xs (off*sz) (len*sz)))
  | _=>False
 | _=>False
theorem elemsW_ok (m:Mem) (v:V) (K:Nat→List D→Prop) (h:elemsW m v K):∃p,elemsD m v=some p∧K p.1 p.2:=by
 unfold elemsW at h
 split at h
 ·exact⟨_,rfl,h⟩
 ·exact⟨_,rfl,h⟩
 ·rw [lookK_eq] at h
  split at h
  ·rename_i hl;exact⟨_,by simp only [elemsD,hl];exact if_pos h.need,h.go⟩
  ·exact h.elim
 ·exact h.elim
def appendNW (cx:Cx) (slot:Nat) (r:RowSpec) (m:Mem) (k:Nat) (ds:List D) (s:V) (K:V→Mem→Prop):Prop:=
 match s with
 | .ref o off len top=>lookK m o fun x=>
  match x with
  | some (.row wr t sz n xs)=>
   Need (off=0∧len=n∧n=top∧t=r.t∧sz=r.sz∧ds.length=k*sz∧(n+k)*r.by_≤140737488355328∧n+k≤140737488355328)
    (updK m o (.row wr t sz (n+k) (xs++ds)) fun m'=>K (.ref o 0 (n+k) (n+k)) m')
  | _=>False
 | .d .nil=>Need (k≠0∧ds.length=k*r.sz∧k*r.by_≤140737488355328∧k≤140737488355328) (newK cx slot m fun i=>updK m i (.row r.wr r.t r.sz k ds) fun m'=>K (.ref i 0 k k) m')
 | _=>False
theorem appendNW_ok (cx:Cx) (slot:Nat) (r:RowSpec) (m:Mem) (k:Nat) (ds:List D) (s:V) (K:V→Mem→Prop) (h:appendNW cx slot r m k ds s K):
  ∃p,appendN cx slot r m (some (k,ds)) s=some p∧K p.1 p.2:=by
 unfold appendNW at h
 split at h
 ·rw [lookK_eq] at h
  split at h
  ·rename_i hl
   obtain⟨⟨h1,h2,h3,h4,h5,h6,h7,h8⟩,h9⟩:=h
   rw [updK_eq] at h9
   refine⟨(_,_),?_,h9⟩
   simp only [appendN,hl]
   exact if_pos ⟨h1,h2,h3,h4,h5,h6,by simp [roomy,h7,h8]⟩
  ·exact h.elim
 ·obtain⟨⟨h1,h2,h3,h4⟩,h9⟩:=h
  rw [newK_eq,updK_eq] at h9
  refine⟨(_,_),?_,h9⟩
  simp only [appendN]
  exact if_pos ⟨h1,h2,by simp [roomy,h3,h4]⟩
 ·exact h.elim
def eqB:D→D→(Prop→Prop)→Prop
 | .int k a,.int l b,K=>(match decide (k=l) with
  | true=>K (a=b)
  | false=>False)
 | .bool a,.bool b,K=>K (a=b)
 | .str a,.str b,K=>K (a=b)
 | _,_,_=>False
def eqBL:List D→List D→(Prop→Prop)→Prop
 | [],[],K=>K True
 | [x],[y],K=>eqB x y K
 | x::x2::r,y::y2::s,K=>eqB x y fun p=>eqBL (x2::r) (y2::s) fun q=>K (p∧q)
 | _,_,_=>False
theorem eqB_ok (x y:D) (K:Prop→Prop) (h:eqB x y K):∃b p,eqD x y=some b∧(b=true↔p)∧K p:=by
 unfold eqB at h
 split at h
 ·split at h
  ·rename_i a _ b _ e
   exact⟨decide (a=b),a=b,by simp only [eqD];exact if_pos (of_decide_eq_true e),by simp,h⟩
  ·exact h.elim
 ·rename_i a b
  exact⟨a==b,a=b,rfl,by simp,h⟩
 ·rename_i a b
  exact⟨a==b,a=b,rfl,by simp,h⟩
 ·exact h.elim
theorem eqBL_ok:∀(xs ys:List D) (K:Prop→Prop),eqBL xs ys K→∃b p,eqL xs ys=some b∧(b=true↔p)∧K p
 | [],[],_,h=>⟨true,True,rfl,by simp,h⟩
 | [x],[y],K,h=>by
  obtain⟨a,p,h1,h2,h3⟩:=eqB_ok x y _ h
  exact⟨a&&true,p,by simp only [eqL,h1],by simpa using h2,h3⟩
 | x::x2::r,y::y2::s,K,h=>by
  obtain⟨a,p,h1,h2,h3⟩:=eqB_ok x y _ h
  obtain⟨b,q,h4,h5,h6⟩:=eqBL_ok (x2::r) (y2::s) _ h3
  refine⟨a&&b,p∧q,?_,by simp [h2,h5],h6⟩
  rw [eqL,h1,h4]
 | [],_::_,_,h=>(by simp only [eqBL] at h)
 | _::_,[],_,h=>(by simp only [eqBL] at h)
 | [_],_::_::_,_,h=>(by simp only [eqBL] at h)
 | _::_::_,[_],_,h=>(by simp only [eqBL] at h)
def eqVW (ks:Option (List KK)) (x y:V) (K:Bool→Prop):Prop:=
 match ks with
 | none=>
  (match x,y with
  | .d (.bool a),.d (.bool b)=>K (a==b)
  | _,_=>False)
 | some ks=>
  (match x,y with
  | .d (.agg a),.d (.agg b)=>
   (match areKeys ks a&&areKeys ks b with
   | true=>eqBL a b fun p=>Cmp p (K true) (K false)
   | false=>False)
  | _,_=>False)
theorem eqVW_ok (ks:Option (List KK)) (x y:V) (K:Bool→Prop) (h:eqVW ks x y K):∃b,eqV ks x y=some b∧K b:=by
 unfold eqVW at h
 split at h
 ·split at h
  ·exact⟨_,rfl,h⟩
  ·exact h.elim
 ·split at h
  ·split at h
   ·rename_i hk
    obtain⟨b,p,h1,h2,h3⟩:=eqBL_ok _ _ _ h
    refine⟨b,by simp only [eqV];rw [if_pos hk];exact h1,?_⟩
    cases b with
    | true=>exact h3.yes (h2.1 rfl)
    | false=>exact h3.no fun hp=>Bool.noConfusion (h2.2 hp)
   ·exact h.elim
  ·exact h.elim
def cmpK (p:Prop) (K:D→Prop):Prop:=Cmp p (K (.bool true)) (K (.bool false))
theorem cmpK_ok {p:Prop} [Decidable p] {K:D→Prop} (h:cmpK p K):K (.bool (decide p)):=by
 by_cases hp:p
 ·have:=h.yes hp;simpa [hp] using this
 ·have:=h.no hp;simpa [hp] using this
def ncmpK (p:Prop) (K:D→Prop):Prop:=Cmp p (K (.bool false)) (K (.bool true))
theorem ncmpK_ok {p:Prop} [Decidable p] {K:D→Prop} (h:ncmpK p K):K (.bool (!decide p)):=by
 by_cases hp:p
 ·have:=h.yes hp;simpa [hp] using this
 ·have:=h.no hp;simpa [hp] using this
def binIntW (op:BinOp) (k:IntKind) (a b:Int) (K:D→Prop):Prop:=
 match op with
 | .add=>Wr k (a+b) fun n=>K (.int k n)
 | .sub=>Wr k (a-b) fun n=>K (.int k n)
 | .mul=>Wr k (a*b) fun n=>K (.int k n)
 | .quo=>Quo k a b fun n=>K (.int k n)
 | .rem=>Rem a b fun n=>K (.int k n)
 | .and=>K (.int k (k.wrap ((BitVec.ofInt k.bits a&&&BitVec.ofInt k.bits b).toNat)))
 | .or=>K (.int k (k.wrap ((BitVec.ofInt k.bits a|||BitVec.ofInt k.bits b).toNat)))
 | .xor=>K (.int k (k.wrap ((BitVec.ofInt k.bits a^^^BitVec.ofInt k.bits b).toNat)))
 | .andNot=>K (.int k (k.wrap ((BitVec.ofInt k.bits a&&&~~~ BitVec.ofInt k.bits b).toNat)))
 | .eql=>cmpK (a=b) K
 | .neq=>ncmpK (a=b) K
 | .lss=>cmpK (a<b) K
 | .leq=>cmpK (a≤b) K
 | .gtr=>cmpK (b<a) K
 | .geq=>cmpK (b≤a) K
 | _=>False
theorem binIntW_ok (op:BinOp) (k:IntKind) (a b:Int) (K:D→Prop) (h:binIntW op k a b K):∃d,binInt op k a b=some d∧K d:=by
 cases op<;>simp only [binIntW] at h<;>simp only [binInt]
 all_goals first
  | exact⟨_,rfl,h.go⟩
  | exact⟨_,if_neg h.ne,h.go⟩
  | exact⟨_,rfl,h⟩
  | exact⟨_,rfl,cmpK_ok h⟩
  | exact⟨_,rfl,ncmpK_ok h⟩
def binStrW (op:BinOp) (a b:List UInt8) (K:D→Prop):Prop:=
 match op with
 | .add=>Need (a.length+b.length≤maxStr) (K (.str (a++b)))
 | .eql=>cmpK (a=b) K
 | .neq=>ncmpK (a=b) K
 | .lss=>K (.bool (strLess a b))
 | .leq=>K (.bool (strLess a b||a==b))
 | .gtr=>K (.bool (!(strLess a b||a==b)))
 | .geq=>K (.bool (!strLess a b))
 | _=>False
theorem binStrW_ok (op:BinOp) (a b:List UInt8) (K:D→Prop) (h:binStrW op a b K):∃d,binStr op a b=some d∧K d:=by
 have hb:(a==b)=decide (a=b):=by by_cases e:a=b<;>simp [e]
 cases op<;>simp only [binStrW] at h<;>simp only [binStr]
 all_goals first
  | exact⟨_,if_pos h.need,h.go⟩
  | exact⟨_,rfl,by rw [hb];exact cmpK_ok h⟩
  | exact⟨_,rfl,by rw [hb];exact ncmpK_ok h⟩
  | exact⟨_,rfl,h⟩
def binW (op:BinOp) (x y:V) (K:D→Prop):Prop:=
 match x,y with
 | .d (.int k a),.d (.int l b)=>
  (match op with
  | .shl=>Need (0≤b) (Wr k (a*2^(min b.toNat k.bits)) fun n=>K (.int k n))
  | .shr=>Need (0≤b) (K (.int k (a.fdiv (2^(min b.toNat k.bits)))))
  | _=>(match decide (k=l) with
   | true=>binIntW op k a b K
   | false=>False))
 | .d (.str a),.d (.str b)=>binStrW op a b K
 | _,_=>False
theorem binW_ok (op:BinOp) (x y:V) (K:D→Prop) (h:binW op x y K):∃d,binD op x y=some d∧K d:=by
 unfold binW at h
 split at h
 ·simp only [binD]
  split at h
  ·exact⟨_,if_pos h.need,h.go.go⟩
  ·exact⟨_,if_pos h.need,h.go⟩
  ·rename_i n1 n2
   split at h
   ·rename_i e
    obtain⟨d,h1,h2⟩:=binIntW_ok _ _ _ _ _ h
    refine⟨d,?_,h2⟩
    cases op<;>first |exact(if_pos (of_decide_eq_true e)).trans h1|exact absurd rfl n1|exact absurd rfl n2
   ·exact h.elim
 ·exact binStrW_ok _ _ _ _ h
 ·exact h.elim
def minmaxGo (mx:Bool) (k:IntKind):Int→List V→(D→Prop)→Prop
 | a,[],K=>K (.int k a)
 | a,.d (.int _ b)::r,K=>
  (match mx with
  | true=>minmaxGo mx k (if b>a then b else a) r K
  | false=>minmaxGo mx k (if b<a then b else a) r K)
 | _,_::_,_=>False
def minmaxW (mx:Bool) (l:List V) (K:D→Prop):Prop:=
 match l with
 | .d (.int k a)::r=>minmaxGo mx k a r K
 | _=>False
theorem minmaxGo_ok (mx:Bool) (k:IntKind):∀(l:List V) (a:Int) (K:D→Prop),minmaxGo mx k a l K→∃d,minmaxD.go mx k a l=some d∧K d
 | [],a,K,h=>⟨.int k a,rfl,h⟩
 | v::r,a,K,h=>by
  unfold minmaxGo at h
  split at h
  ·rename_i e;cases e
  ·rename_i _ _ _ a' b r' K' e
   obtain⟨rfl,rfl⟩:=(List.cons.injEq ..).mp e
   simp only [minmaxD.go]
   cases mx with
   | true=>exact minmaxGo_ok true k r _ _ h
   | false=>exact minmaxGo_ok false k r _ _ h
  ·exact h.elim
theorem minmaxW_ok (mx:Bool) (l:List V) (K:D→Prop) (h:minmaxW mx l K):∃d,minmaxD mx l=some d∧K d:=by
 unfold minmaxW at h
 split at h
 ·exact minmaxGo_ok mx _ _ _ K h
 ·exact h.elim
end Go.Evl
namespace Go.Evl
def lowB (nx:Nat):List Id→Bool
 | []=>true
 | i::r=>match Nat.blt i.lv nx with
  | true=>lowB nx r
  | false=>false
theorem lowB_eq (nx:Nat):∀(l:List Id),lowB nx l=allLow nx l
 | []=>rfl
 | i::r=>by
  simp only [lowB]
  cases h:Nat.blt i.lv nx with
  | true=>
   have:i.lv<nx:=Nat.le_of_ble_eq_true h
   simp only [lowB_eq nx r]
   simp [allLow,this]
  | false=>
   have:¬i.lv<nx:=fun hh=>by
    have:=Nat.ble_eq_true_of_le (show i.lv+1≤nx from hh)
    simp only [Nat.blt] at h
    rw [this] at h;cases h
   simp [allLow,this]
def keysK:Mem→(List Id→Prop)→Prop
 | [],K=>K []
 | (i,_)::r,K=>keysK r fun l=>K (i::l)
theorem keysK_eq:∀(m:Mem) (K:List Id→Prop),keysK m K=K (keys m)
 | [],_=>rfl
 | (i,o)::r,K=>by simp only [keysK,keysK_eq r];rfl
def belowK (nx:Nat):Mem→(Mem→Prop)→Prop
 | [],K=>K []
 | (i,o)::r,K=>match Nat.blt i.lv nx with
  | true=>belowK nx r fun r'=>K ((i,o)::r')
  | false=>belowK nx r K
theorem belowK_eq (nx:Nat):∀(m:Mem) (K:Mem→Prop),belowK nx m K=K (belowLv nx m)
 | [],_=>rfl
 | (i,o)::r,K=>by
  simp only [belowK]
  cases h:Nat.blt i.lv nx with
  | true=>
   have:i.lv<nx:=Nat.le_of_ble_eq_true h
   simp only [belowK_eq nx r]
   simp [belowLv,this]
  | false=>
   have:¬i.lv<nx:=fun hh=>by
    have:=Nat.ble_eq_true_of_le (show i.lv+1≤nx from hh)
    simp only [Nat.blt] at h
    rw [this] at h;cases h
   simp only [belowK_eq nx r]
   simp [belowLv,this]
def backW (cx:Cx) (slot:Nat) (imm:Bool) (v:V) (m':Mem) (K:V→Mem→Prop):Prop:=belowK cx.nx m' fun old=>
 match lowB cx.nx (idsAll old) with
 | true=>(match imm with
  | true=>(match (ids v).all fun i=>Nat.ble cx.nx i.lv with
   | true=>thawW m' v fun r=>K r old
   | false=>False)
  | false=>Some' (settle cx slot cx.nx old m' v) fun p=>K p.1 p.2)
 | false=>False
def callW (E:Oracle) (cx:Cx) (slot:Nat) (shared imm:Bool) (f:V) (args:List V) (m:Mem) (K:V→Mem→Prop):Prop:=
 match shared with
 | false=>(match f with
  | .fn f first caps=>freezeLW false m (first ++args++caps) fun ds=>asVK ds fun vs=>
   (match imm with
   | true=>CallI E f vs fun v=>K v m
   | false=>CallS E f vs cx slot m K)
  | _=>False)
 | true=>keysK m fun ks=>(match lowB cx.nx ks with
  | true=>(match f with
   | .fn f first caps=>In E cx.nx f (first ++args++caps) m fun v m'=>backW cx slot imm v m' K
   | .yld o=>Rnd E cx.nx o args m fun v m'=>backW cx slot imm v m' K
   | _=>False)
  | false=>False)
section
variable {E : Oracle}
theorem backW_ok {cx:Cx} {slot:Nat} {imm:Bool} {v:V} {m':Mem} {K:V→Mem→Prop} (h:backW cx slot imm v m' K):
  ∃p,(if allLow cx.nx (idsAll (belowLv cx.nx m')) then takeV cx slot cx.nx imm (belowLv cx.nx m') m' v else none)=some p∧K p.1 p.2:=by
 simp only [backW,belowK_eq,lowB_eq] at h
 split at h
 ·rename_i hl
  rw [if_pos hl]
  split at h
  ·split at h
   ·rename_i ha
    obtain⟨r,h1,h2⟩:=thawW_ok _ _ _ h
    refine⟨(r,belowLv cx.nx m'),?_,h2⟩
    have ha':((ids v).all fun i=>decide (cx.nx≤i.lv))=true:=by
     rw [List.all_eq_true] at ha ⊢
     intro i hi
     simpa using Nat.le_of_ble_eq_true (ha i hi)
    simp only [takeV,if_true,ha',h1]
    rfl
   ·exact h.elim
  ·obtain⟨p,h1,h2⟩:=h.got
   exact⟨p,by simp only [takeV];exact h1,h2⟩
 ·exact h.elim
theorem callW_ok {cx:Cx} {slot:Nat} {shared imm:Bool} {f:V} {args:List V} {m:Mem} {K:V→Mem→Prop} (h:callW E cx slot shared imm f args m K):
  ∃p,callV E cx slot shared imm f args m=some p∧K p.1 p.2:=by
 unfold callW at h
 split at h
 ·split at h
  ·rename_i f first caps
   obtain⟨ds,h1,h2⟩:=freezeLW_ok _ _ _ _ h
   rw [asVK_eq] at h2
   simp only [callV,h1]
   split at h2
   ·obtain⟨r,⟨v,m',h3,h4⟩,h5⟩:=h2.got
    refine⟨(r,m),?_,h5⟩
    have hall:((ids v).all fun i=>decide (0≤i.lv))=true:=by simp
    simp only [h3,takeV,hall,h4]
    rfl
   ·obtain⟨v,m',p,h3,h4,h5⟩:=h2.got
    refine⟨p,?_,h5⟩
    simp only [h3,takeV,h4]
    rfl
  ·exact h.elim
 ·simp only [keysK_eq,lowB_eq] at h
  split at h
  ·rename_i hl
   simp only [callV,if_true,hl]
   split at h
   ·obtain⟨v,m',h1,h2⟩:=h.got
    simp only [callShared,h1]
    exact backW_ok h2
   ·obtain⟨v,m',h1,h2⟩:=h.got
    simp only [callShared,h1]
    exact backW_ok h2
   ·exact h.elim
  ·exact h.elim
structure Find (key:D) (es:List (D×V)) (K:Option V→Prop):Prop where
 got:∃r,findE key es=some r∧K r
structure SetW (key:D) (x:V) (es:List (D×V)) (K:List (D×V)→Prop):Prop where
 got:∃r,setE key x es=some r∧K r
structure NextW (s:List UInt8) (pos:Nat) (some_:Int→Nat→Prop) (none_:Prop):Prop where
 yes:pos<s.length→some_ (Utf8.decode ⟨s.toArray⟩ pos).1 (Utf8.decode ⟨s.toArray⟩ pos).2
 no:¬pos<s.length→none_
def lookupW (kk:KK) (zero:D) (ok:Bool) (m:Mem) (x key:V) (K:V→Prop):Prop:=
 match key with
 | .d key=>
  (match isKey kk key with
  | true=>(match x with
   | .mp o=>lookK m o fun ob=>
    match ob with
    | some (.map es)=>Find key es fun r=>K (outV zero ok r)
    | _=>False
   | .d .nilm=>K (outV zero ok none)
   | _=>False)
  | false=>False)
 | _=>False
theorem lookupW_ok {kk:KK} {zero:D} {ok:Bool} {m:Mem} {x key:V} {K:V→Prop} (h:lookupW kk zero ok m x key K):∃v,lookupV kk zero ok m x key=some v∧K v:=by
 unfold lookupW at h
 split at h
 ·split at h
  ·rename_i hk
   simp only [lookupV,if_pos hk]
   split at h
   ·rw [lookK_eq] at h
    split at h
    ·rename_i hl
     obtain⟨r,h1,h2⟩:=h.got
     exact⟨_,by simp only [hl,h1];rfl,h2⟩
    ·exact h.elim
   ·exact⟨_,rfl,h⟩
   ·exact h.elim
  ·exact h.elim
 ·exact h.elim
def nilW (m:Mem) (x:V) (K:Nat→Bool→Prop):Prop:=
 match x with
 | .d .nilp=>K 0 true
 | .d .nilf=>K 4 true
 | .d .nili=>K 1 true
 | .d (.ifc true)=>K 1 false
 | .d .nilm=>K 3 true
 | .d (.fn _)=>K 4 false
 | .d (.list n _)=>Need (n≠0) (K 2 false)
 | .fn .. =>K 4 false
 | .lptr .. =>K 0 false
 | .ptr o _ top=>lookK m o fun ob=>
  match ob with
  | some (.cells ..)=>K 0 false
  | some (.row _ _ _ n _)=>Need (n=top) (K 0 false)
  | _=>False
 | .ref o off len top=>lookK m o fun ob=>
  match ob with
  | some (.row _ _ _ n _)=>Need (n=top∧off+len≤n∧len≠0) (K 2 false)
  | _=>False
 | _=>False
theorem nilW_ok {m:Mem} {x:V} {K:Nat→Bool→Prop} (h:nilW m x K):∃k b,nilV m x=some (k,b)∧K k b:=by
 unfold nilW at h
 split at h
 ·exact⟨_,_,rfl,h⟩
 ·exact⟨_,_,rfl,h⟩
 ·exact⟨_,_,rfl,h⟩
 ·exact⟨_,_,rfl,h⟩
 ·exact⟨_,_,rfl,h⟩
 ·exact⟨_,_,rfl,h⟩
 ·rename_i n cs
  cases n with
  | zero=>exact absurd rfl h.need
  | succ n=>exact⟨_,_,rfl,h.go⟩
 ·exact⟨_,_,rfl,h⟩
 ·exact⟨_,_,rfl,h⟩
 ·rw [lookK_eq] at h
  split at h
  ·rename_i hl;exact⟨_,_,by simp only [nilV,sure,hl];rfl,h⟩
  ·rename_i hl;exact⟨_,_,by simp [nilV,sure,hl,h.need],h.go⟩
  ·exact h.elim
 ·rw [lookK_eq] at h
  split at h
  ·rename_i hl;exact⟨_,_,by simp only [nilV,hl];exact if_pos h.need,h.go⟩
  ·exact h.elim
 ·exact h.elim
def mapSetW (kk:KK) (m:Mem) (x key v:V) (K:V→Mem→Prop):Prop:=
 match x,key with
 | .mp o,.d key=>lookK m o fun ob=>
  (match ob with
  | some (.map es)=>(match isKey kk key&&(cellsOf v).isSome with
   | true=>SetW key v es fun es'=>updK m o (.map es') fun m'=>K .skip m'
   | false=>False)
  | _=>False)
 | _,_=>False
theorem mapSetW_ok {kk:KK} {m:Mem} {x key v:V} {K:V→Mem→Prop} (h:mapSetW kk m x key v K):∃m',mapSetV kk m x key v=some m'∧K .skip m':=by
 unfold mapSetW at h
 split at h
 ·rw [lookK_eq] at h
  split at h
  ·rename_i hl
   split at h
   ·rename_i hb
    obtain⟨r,h1,h2⟩:=h.got
    rw [updK_eq] at h2
    exact⟨_,by simp only [mapSetV,hl,if_pos hb,h1];rfl,h2⟩
   ·exact h.elim
  ·exact h.elim
 ·exact h.elim
structure QryW (E:Oracle) (f:V) (args:List V) (m:Mem) (K:V→Prop):Prop where
 got:∃v,callQV E f args m=some v∧K v
def wpOp (E:Oracle) (cx:Cx) (slot:Nat) (e:Env) (m:Mem) (op:COp) (K:V→Mem→Prop):Prop:=
 match op with
 | .mv x=>opK e x fun v=>K v m
 | .ownNil r=>newK cx slot m fun i=>updK m i (.row r.wr r.t r.sz 0 []) fun m'=>K (.ref i 0 0 0) m'
 | .pick c a b=>opK e c fun c=>
  match c with
  | .d (.bool t)=>Br t (opK e a fun v=>K v m) (opK e b fun v=>K v m)
  | _=>False
 | .alloc t cs=>initK cx slot cs m fun vs m1=>newK cx slot m1 fun i=>updK m1 i (.cells t vs) fun m2=>K (.ptr i 0 0) m2
 | .box t x=>opK e x fun v=>cellsW v fun cs=>newK cx slot m fun i=>updK m i (.cells t cs) fun m2=>K (.ptr i 0 0) m2
 | .build zero parts=>initK cx slot zero m fun vs m1=>partsK e parts fun ps=>fillW vs ps fun cs=>aggK cs fun v=>K v m1
 | .mkList sz n parts=>evsK e parts fun vs=>listDW sz m vs fun ds=>K (.d (.list n ds)) m
 | .mkListD sz n parts=>evsK e parts fun vs=>Chk (isDL vs) (listDW sz [] vs fun ds=>K (.d (.list n ds)) m)
 | .mkRow r n parts=>evsK e parts fun vs=>listDW r.sz m vs fun ds=>newK cx slot m fun i=>updK m i (.row r.wr r.t r.sz n ds) fun m2=>K (.ref i 0 n n) m2
 | .load n a=>opK e a fun a=>loadW n m a fun v=>K v m
 | .store n a x=>opK e a fun a=>opK e x fun x=>storeW n m a x fun m'=>K .skip m'
 | .nilCheck x=>opK e x fun v=>
  match v with
  | .fn f a b=>K (.fn f a b) m
  | .d (.fn f)=>K (.fn f [] []) m
  | .lptr cs o=>K (.lptr cs o) m
  | .ptr o off top=>lookK m o fun ob=>
   match ob with
   | some (.cells ..)=>K (.ptr o off top) m
   | some (.row _ _ _ n _)=>Need (n=top) (K (.ptr o off top) m)
   | _=>False
  | _=>False
 | .bin op x y=>opK e x fun x=>opK e y fun y=>binW op x y fun d=>K (.d d) m
 | .eqv ks neg x y=>opK e x fun x=>opK e y fun y=>eqVW ks x y fun b=>
  match neg with
  | true=>K (.d (.bool (!b))) m
  | false=>K (.d (.bool b)) m
 | .un op x=>opK e x fun x=>
  match op,x with
  | .not,.d (.bool b)=>K (.d (.bool (!b))) m
  | .neg,.d (.int k n)=>Wr k (0-n) fun n=>K (.d (.int k n)) m
  | _,_=>False
 | .conv k x=>opK e x fun x=>
  match x with
  | .d (.int _ n)=>Wr k n fun n=>K (.d (.int k n)) m
  | _=>False
 | .mkFunc f first caps=>evsK e first fun a=>evsK e caps fun b=>K (.fn f a b) m
 | .makeRow r zero n=>opK e n fun n=>
  match n with
  | .d (.int _ n)=>Need (0≤n∧zero.length=r.sz∧n.toNat*r.by_≤140737488355328∧n.toNat≤140737488355328)
   (newK cx slot m fun i=>updK m i (.row r.wr r.t r.sz n.toNat (List.replicate n.toNat zero).flatten) fun m'=>K (.ref i 0 n.toNat n.toNat) m')
  | _=>False
 | .sliceS x lo hi=>opK e x fun x=>opK? e lo fun lo=>opK? e hi fun hi=>
  match x with
  | .d (.str s)=>boundsW s.length lo hi fun l h=>K (.d (.str (win s l (h-l)))) m
  | _=>False
 | .slice sz x lo hi mx=>opK e x fun x=>opK? e lo fun lo=>opK? e hi fun hi=>opK? e mx fun mx=>sliceW sz m x lo hi mx fun v=>K v m
 | .fieldAddr off x=>opK e x fun x=>moveW off m x fun v=>K v m
 | .field off n x=>opK e x fun x=>partW n x off fun v=>K v m
 | .idxAddr sz x i=>opK e x fun x=>opK e i fun i=>idxAddrW sz m x i fun v=>K v m
 | .idxAddrA len sz x i=>opK e x fun x=>opK e i fun i=>
  match i with
  | .d (.int _ i)=>Need (0≤i∧i<len) (moveW (i.toNat*sz) m x fun v=>K v m)
  | _=>False
 | .idxS x i=>opK e x fun x=>opK e i fun i=>
  match x,i with
  | .d (.str s),.d (.int _ i)=>Need (0≤i) (PickB s i.toNat fun b=>K (.d (.int .u8 b.toNat)) m)
  | _,_=>False
 | .idxA len sz n x i=>opK e x fun x=>opK e i fun i=>
  match i with
  | .d (.int _ i)=>Need (0≤i∧i<len) (partW n x (i.toNat*sz) fun v=>K v m)
  | _=>False
 | .mkMap=>newK cx slot m fun i=>updK m i (.map []) fun m'=>K (.mp i) m'
 | .lookup kk zero ok x key=>opK e x fun x=>opK e key fun key=>lookupW kk zero ok m x key fun v=>K v m
 | .mapSet kk x key v=>opK e x fun x=>opK e key fun key=>opK e v fun v=>mapSetW kk m x key v K
 | .mapSetR kk x key v rs=>opK e x fun x=>opK e key fun key=>opK e v fun v=>getsK e rs fun vs=>Chk (apartM x vs) (mapSetW kk m x key v K)
 | .callD f args=>opK e f fun f=>evsK e args fun vs=>
  match toFn f with
  | .fn g [] []=>Chk (isDL vs) (callW E cx slot false true (.fn g [] []) vs m K)
  | _=>False
 | .callQ f args=>opK e f fun f=>evsK e args fun vs=>QryW E (toFn f) vs m fun v=>K v m
 | .callK imm f args=>opK e f fun f=>evsK e args fun vs=>callW E cx slot true imm (toFn f) vs m fun v m'=>Chk (leM m m' m) (K v m)
 | .callN f args=>opK e f fun f=>evsK e args fun vs=>
  match toFn f with
  | .fn g [] []=>Chk (isDL vs) (callW E cx slot false false (.fn g [] []) vs m K)
  | _=>False
 | .nilEq kd neg x=>opK e x fun x=>nilW m x fun k b=>Chk (Nat.beq k kd) (K (.d (.bool (if neg then !b else b))) m)
 | .loadD n a=>opK e a fun a=>
  match a with
  | .lptr cs off=>pickDW n cs off fun v=>K v m
  | _=>False
 | .idxAddrD sz x i=>opK e x fun x=>opK e i fun i=>
  match x with
  | .d (.list n cs)=>(match i with
   | .d (.int _ i)=>Need (0≤i∧i<n) (K (.lptr cs (i.toNat*sz)) m)
   | _=>False)
  | _=>False
 | .sliceZ _ x hi mx=>opK e x fun x=>opK e hi fun hi=>opK e mx fun mx=>Chk (zeroV hi&&zeroV mx) (lenW m .slc x fun _=>K (.d .nil) m)
 | .appendIn r s x=>opK e s fun s=>opK e x fun x=>elemsW m x fun k ds=>
  match s with
  | .ref o off len top=>lookK m o fun ob=>
   match ob with
   | some (.row true t sz n xs)=>Need (n=top∧off+len+k≤n∧off+len<n∧t=r.t∧sz=r.sz∧ds.length=k*sz)
    (updK m o (.row true t sz n (patch xs ((off+len)*sz) ds)) fun m'=>K (.ref o off (len+k) top) m')
   | _=>False
  | _=>False
 | .rangeS x=>opK e x fun x=>
  match x with
  | .d (.str s)=>newK cx slot m fun i=>updK m i (.iter s 0) fun m'=>K (.it i) m'
  | _=>False
 | .nextS x=>opK e x fun x=>
  match x with
  | .it o=>lookK m o fun ob=>
   match ob with
   | some (.iter s pos)=>NextW s pos (fun c w=>updK m o (.iter s (pos+w)) fun m'=>K (.tup [.d (.bool true),.d (.int .i64 pos),.d (.int .i32 c)]) m') (K (.tup [.d (.bool false)]) m)
   | _=>False
  | _=>False
 | .extract x i=>opK e x fun x=>
  match x with
  | .tup vs=>PickV vs i fun v=>K v m
  | _=>False
 | .call shared imm f args=>opK e f fun f=>evsK e args fun vs=>callW E cx slot shared imm (toFn f) vs m K
 | .storeR n a x rs=>opK e a fun a=>opK e x fun x=>getsK e rs fun vs=>Chk (apartV a vs) (storeW n m a x fun m'=>K .skip m')
 | .bad=>False
 | .appendZ r zero s n=>opK e s fun s=>opK e n fun n=>
  match s,n with
  | .d .nil,.d (.int .i64 n)=>Need (0<n∧zero.length=r.sz∧n.toNat*r.by_≤140737488355328∧n.toNat≤140737488355328)
   (newK cx slot m fun i=>updK m i (.row r.wr r.t r.sz n.toNat (List.replicate n.toNat zero).flatten) fun m'=>K (.ref i 0 n.toNat n.toNat) m')
  | _,_=>False
 | .callB imm f args b=>∃p,callBag (fun m=>callV E cx slot true imm (toFn (f.ev e)) (evs e args) m) m (get e b)=some p∧K p.1 p.2
 | .callR imm f args rs=>opK e f fun f=>evsK e args fun vs=>getsK e rs fun ws=>callW E cx slot true imm (toFn f) vs m fun v m'=>Chk (keptV m m' ws) (K v m')
 | .len k x=>opK e x fun x=>lenW m k x fun n=>K (.d (.int .i64 (n:Int))) m
 | .append r s x=>opK e s fun s=>opK e x fun x=>elemsW m x fun k ds=>appendNW cx slot r m k ds s K
 | .appendF r s x=>opK e s fun s=>opK e x fun x=>elemsW m x fun k ds=>appendNW cx slot r m k ds s fun v m'=>freezeW false m' v fun d=>K (.d d) m'
 | .strB x=>opK e x fun x=>
  match x with
  | .d (.list 1 [.int .u8 n])=>K (.d (.str [UInt8.ofNat n.toNat])) m
  | _=>False
 | .appendS r s x=>opK e s fun s=>opK e x fun x=>
  match x,s with
  | .d (.str b),.ref o off len top=>appendNW cx slot r m b.length (bytesD b) (.ref o off len top) K
  | _,_=>False
 | .copy sz a b=>opK e a fun d=>opK e b fun s=>elemsW m s fun k ds=>
  match d with
  | .ref o off len top=>lookK m o fun ob=>
   match ob with
   | some (.row true t sz' n xs)=>Need (n=top∧off+len≤n∧sz'=sz∧ds.length=k*sz)
    (updK m o (.row true t sz' n (patch xs (off*sz) (ds.take (min k len*sz)))) fun m'=>K (.d (.int .i64 (min k len:Nat))) m')
   | _=>False
  | _=>False
 | .minmax mx args=>evsK e args fun vs=>minmaxW mx vs fun d=>K (.d d) m
 | .clear zero x=>opK e x fun x=>Some' (clearV zero m x) fun m'=>K .skip m'
theorem wpOp_ok {cx:Cx} {slot:Nat} {e:Env} {m:Mem} {op:COp} {K:V→Mem→Prop} (h:wpOp E cx slot e m op K):∃p,evOp E cx slot e m op=some p∧K p.1 p.2:=by
 cases op with
 | mv x=>simp only [wpOp,opK_eq] at h;exact⟨(_,_),rfl,h⟩
 | ownNil r=>simp only [wpOp,newK_eq,updK_eq] at h;exact⟨(_,_),rfl,h⟩
 | pick c a b=>
  simp only [wpOp,opK_eq] at h
  simp only [evOp]
  split at h
  ·rename_i t ht
   rw [ht]
   refine⟨(if t then a.ev e else b.ev e,m),rfl,?_⟩
   cases t with
   | true=>exact h.yes rfl
   | false=>exact h.no rfl
  ·exact h.elim
 | alloc t cs=>simp only [wpOp,initK_eq,newK_eq,updK_eq] at h;exact⟨(_,_),rfl,h⟩
 | box t x=>
  simp only [wpOp,opK_eq] at h
  obtain⟨cs,h1,h2⟩:=cellsW_ok _ _ h
  simp only [newK_eq,updK_eq] at h2
  exact⟨(_,_),by simp only [evOp,h1],h2⟩
 | build zero parts=>
  simp only [wpOp,initK_eq,partsK_eq] at h
  obtain⟨cs,h1,h2⟩:=fillW_ok _ _ _ h
  rw [aggK_eq] at h2
  exact⟨(_,_),by simp only [evOp,h1];rfl,h2⟩
 | mkList sz n parts=>
  simp only [wpOp,evsK_eq] at h
  obtain⟨cs,h1,h2⟩:=listDW_ok _ _ _ _ h
  exact⟨(_,_),by simp only [evOp,h1];rfl,h2⟩
 | mkListD sz n parts=>
  simp only [wpOp,evsK_eq] at h
  obtain⟨hc,h⟩:=h
  obtain⟨cs,h1,h2⟩:=listDW_ok _ _ _ _ h
  exact⟨(_,_),by simp only [evOp,hc,if_true,h1];rfl,h2⟩
 | mkRow r n parts=>
  simp only [wpOp,evsK_eq] at h
  obtain⟨cs,h1,h2⟩:=listDW_ok _ _ _ _ h
  simp only [newK_eq,updK_eq] at h2
  exact⟨(_,_),by simp only [evOp,h1];rfl,h2⟩
 | load n a=>
  simp only [wpOp,opK_eq] at h
  obtain⟨v,h1,h2⟩:=loadW_ok _ _ _ _ h
  exact⟨(_,_),by simp only [evOp,h1];rfl,h2⟩
 | store n a x=>
  simp only [wpOp,opK_eq] at h
  obtain⟨v,h1,h2⟩:=storeW_ok _ _ _ _ _ h
  exact⟨(_,_),by simp only [evOp,h1];rfl,h2⟩
 | nilCheck x=>
  simp only [wpOp,opK_eq] at h
  simp only [evOp]
  split at h
  ·rename_i hx;rw [hx];exact⟨(_,_),rfl,h⟩
  ·rename_i hx;rw [hx];exact⟨(_,_),rfl,h⟩
  ·rename_i hx;rw [hx];exact⟨(_,_),rfl,h⟩
  ·rename_i hx;rw [hx]
   rw [lookK_eq] at h
   split at h
   ·rename_i hl;exact⟨(_,_),by simp only [sure,hl];rfl,h⟩
   ·rename_i hl;exact⟨(_,_),by simp [sure,hl,h.need],h.go⟩
   ·exact h.elim
  ·exact h.elim
 | bin op x y=>
  simp only [wpOp,opK_eq] at h
  obtain⟨v,h1,h2⟩:=binW_ok _ _ _ _ h
  exact⟨(_,_),by simp only [evOp,h1];rfl,h2⟩
 | eqv ks neg x y=>
  simp only [wpOp,opK_eq] at h
  obtain⟨v,h1,h2⟩:=eqVW_ok _ _ _ _ h
  cases neg<;>exact⟨(_,_),by simp only [evOp,h1];rfl,h2⟩
 | un op x=>
  simp only [wpOp,opK_eq] at h
  simp only [evOp]
  split at h
  ·rename_i hx;rw [hx];exact⟨(_,_),rfl,h⟩
  ·rename_i hx;rw [hx];exact⟨(_,_),rfl,h.go⟩
  ·exact h.elim
 | conv k x=>
  simp only [wpOp,opK_eq] at h
  simp only [evOp]
  split at h
  ·rename_i hx;rw [hx];exact⟨(_,_),rfl,h.go⟩
  ·exact h.elim
 | mkFunc f first caps=>simp only [wpOp,evsK_eq] at h;exact⟨(_,_),rfl,h⟩
 | makeRow r zero n=>
  simp only [wpOp,opK_eq] at h
  simp only [evOp]
  split at h
  ·rename_i hx;rw [hx]
   obtain⟨⟨h1,h2,h3,h4⟩,h5⟩:=h
   simp only [newK_eq,updK_eq] at h5
   exact⟨(_,_),if_pos ⟨h1,h2,by simp [roomy,h3,h4]⟩,h5⟩
  ·exact h.elim
 | sliceS x lo hi=>
  simp only [wpOp,opK_eq,opK?_eq] at h
  simp only [evOp]
  split at h
  ·rename_i hx;rw [hx]
   obtain⟨p,h1,h2⟩:=boundsW_ok _ _ _ _ h
   obtain⟨l,hh⟩:=p
   simp only [h1]
   exact⟨(_,_),rfl,h2⟩
  ·exact h.elim
 | slice sz x lo hi mx=>
  simp only [wpOp,opK_eq,opK?_eq] at h
  obtain⟨v,h1,h2⟩:=sliceW_ok _ _ _ _ _ _ _ h
  exact⟨(_,_),by simp only [evOp,h1];rfl,h2⟩
 | fieldAddr off x=>
  simp only [wpOp,opK_eq] at h
  obtain⟨v,h1,h2⟩:=moveW_ok _ _ _ _ h
  exact⟨(_,_),by simp only [evOp,h1];rfl,h2⟩
 | field off n x=>
  simp only [wpOp,opK_eq] at h
  obtain⟨v,h1,h2⟩:=partW_ok _ _ _ _ h
  exact⟨(_,_),by simp only [evOp,h1];rfl,h2⟩
 | idxAddr sz x i=>
  simp only [wpOp,opK_eq] at h
  obtain⟨v,h1,h2⟩:=idxAddrW_ok _ _ _ _ _ h
  exact⟨(_,_),by simp only [evOp,h1];rfl,h2⟩
 | idxAddrA len sz x i=>
  simp only [wpOp,opK_eq] at h
  simp only [evOp]
  split at h
  ·rename_i hx;rw [hx]
   obtain⟨h0,h⟩:=h
   obtain⟨v,h1,h2⟩:=moveW_ok _ _ _ _ h
   simp only [asI,if_pos h0,h1]
   exact⟨(_,_),rfl,h2⟩
  ·exact h.elim
 | idxS x i=>
  simp only [wpOp,opK_eq] at h
  simp only [evOp]
  split at h
  ·rename_i hx hi;rw [hx,hi]
   obtain⟨h0,h⟩:=h
   obtain⟨b,h1,h2⟩:=h.got
   simp only [asI,if_pos h0,h1]
   exact⟨(_,_),rfl,h2⟩
  ·exact h.elim
 | idxA len sz n x i=>
  simp only [wpOp,opK_eq] at h
  simp only [evOp]
  split at h
  ·rename_i hx;rw [hx]
   obtain⟨h0,h⟩:=h
   obtain⟨v,h1,h2⟩:=partW_ok _ _ _ _ h
   simp only [asI,if_pos h0,h1]
   exact⟨(_,_),rfl,h2⟩
  ·exact h.elim
 | mkMap=>simp only [wpOp,newK_eq,updK_eq] at h;exact⟨(_,_),rfl,h⟩
 | lookup kk zero ok x key=>
  simp only [wpOp,opK_eq] at h
  obtain⟨v,h1,h2⟩:=lookupW_ok h
  exact⟨(_,_),by simp only [evOp,h1];rfl,h2⟩
 | mapSet kk x key v=>
  simp only [wpOp,opK_eq] at h
  obtain⟨m',h1,h2⟩:=mapSetW_ok h
  exact⟨(_,_),by simp only [evOp,h1];rfl,h2⟩
 | mapSetR kk x key v rs=>
  simp only [wpOp,opK_eq,getsK_eq] at h
  obtain⟨hc,h⟩:=h
  obtain⟨m',h1,h2⟩:=mapSetW_ok h
  exact⟨(_,_),by simp only [evOp,if_pos hc,h1];rfl,h2⟩
 | callK imm f args=>
  simp only [wpOp,opK_eq,evsK_eq] at h
  obtain⟨⟨v,m'⟩,h1,hc,h2⟩:=callW_ok h
  exact⟨(v,m),by simp only [evOp,h1,if_pos hc],h2⟩
 | callQ f args=>
  simp only [wpOp,opK_eq,evsK_eq] at h
  obtain⟨v,h1,h2⟩:=h.got
  exact⟨(v,m),by simp only [evOp,h1];rfl,h2⟩
 | callN f args=>
  simp only [wpOp,opK_eq,evsK_eq] at h
  simp only [evOp]
  split at h
  ·rename_i hf;rw [hf]
   obtain⟨hc,h⟩:=h
   obtain⟨p,h1,h2⟩:=callW_ok h
   exact⟨p,by simp only [hc,if_true];exact h1,h2⟩
  ·exact h.elim
 | callD f args=>
  simp only [wpOp,opK_eq,evsK_eq] at h
  simp only [evOp]
  split at h
  ·rename_i hf;rw [hf]
   obtain⟨hc,h⟩:=h
   obtain⟨p,h1,h2⟩:=callW_ok h
   exact⟨p,by simp only [hc,if_true];exact h1,h2⟩
  ·exact h.elim
 | nilEq kd neg x=>
  simp only [wpOp,opK_eq] at h
  obtain⟨k,b,h1,hc,h2⟩:=nilW_ok h
  exact⟨(_,_),by simp only [evOp,h1];exact if_pos (Nat.eq_of_beq_eq_true hc),h2⟩
 | loadD n a=>
  simp only [wpOp,opK_eq] at h
  simp only [evOp]
  split at h
  ·rename_i ha;rw [ha]
   obtain⟨v,h1,h2⟩:=pickDW_ok _ _ _ _ h
   exact⟨(_,_),by simp only [h1];rfl,h2⟩
  ·exact h.elim
 | idxAddrD sz x i=>
  simp only [wpOp,opK_eq] at h
  simp only [evOp]
  split at h
  ·rename_i hx;rw [hx]
   split at h
   ·rename_i hi;rw [hi]
    exact⟨(_,_),if_pos h.need,h.go⟩
   ·exact h.elim
  ·exact h.elim
 | sliceZ sz x hi mx=>
  simp only [wpOp,opK_eq] at h
  obtain⟨hc,h⟩:=h
  obtain⟨n,h1,h2⟩:=lenW_ok _ _ _ _ h
  exact⟨(_,_),by simp only [evOp,hc,h1];rfl,h2⟩
 | appendIn r s x=>
  simp only [wpOp,opK_eq] at h
  obtain⟨⟨k,ds⟩,h1,h2⟩:=elemsW_ok _ _ _ h
  simp only [evOp,appendInV,h1]
  split at h2
  ·rename_i hs;rw [hs]
   rw [lookK_eq] at h2
   split at h2
   ·rename_i hl
    obtain⟨hc,h3⟩:=h2
    rw [updK_eq] at h3
    exact⟨(_,_),by simp only [hl];exact if_pos hc,h3⟩
   ·exact h2.elim
  ·exact h2.elim
 | rangeS x=>
  simp only [wpOp,opK_eq] at h
  simp only [evOp]
  split at h
  ·rename_i hx;rw [hx]
   simp only [newK_eq,updK_eq] at h
   exact⟨(_,_),rfl,h⟩
  ·exact h.elim
 | nextS x=>
  simp only [wpOp,opK_eq] at h
  simp only [evOp]
  split at h
  ·rename_i hx;rw [hx]
   rw [lookK_eq] at h
   split at h
   ·rename_i s pos hl
    simp only [updK_eq] at h
    simp only [nextV,hl]
    by_cases hp:pos<s.length
    ·exact⟨(_,_),if_pos hp,h.yes hp⟩
    ·exact⟨(_,_),if_neg hp,h.no hp⟩
   ·exact h.elim
  ·exact h.elim
 | extract x i=>
  simp only [wpOp,opK_eq] at h
  simp only [evOp]
  split at h
  ·rename_i hx;rw [hx]
   obtain⟨v,h1,h2⟩:=h.got
   exact⟨(_,_),by simp only [h1];rfl,h2⟩
  ·exact h.elim
 | call shared imm f args=>
  simp only [wpOp,opK_eq,evsK_eq] at h
  exact callW_ok h
 | storeR n a x rs=>
  simp only [wpOp,opK_eq,getsK_eq] at h
  obtain⟨hc,h⟩:=h
  obtain⟨v,h1,h2⟩:=storeW_ok _ _ _ _ _ h
  exact⟨(_,_),by simp only [evOp,if_pos hc,h1];rfl,h2⟩
 | callB imm f args b=>exact h
 | bad=>exact h.elim
 | appendZ r zero s n=>
  simp only [wpOp,opK_eq] at h
  simp only [evOp]
  split at h
  ·rename_i hs hn;rw [hs,hn]
   obtain⟨⟨h1,h2,h3,h4⟩,h5⟩:=h
   rw [newK_eq,updK_eq] at h5
   exact⟨(_,_),if_pos ⟨h1,h2,by simp [roomy,h3,h4]⟩,h5⟩
  ·exact h.elim
 | callR imm f args rs=>
  simp only [wpOp,opK_eq,evsK_eq,getsK_eq] at h
  obtain⟨⟨v,m'⟩,h1,hc,h2⟩:=callW_ok h
  exact⟨(v,m'),by simp only [evOp,h1,if_pos hc],h2⟩
 | len k x=>
  simp only [wpOp,opK_eq] at h
  obtain⟨v,h1,h2⟩:=lenW_ok _ _ _ _ h
  exact⟨(_,_),by simp only [evOp,h1];rfl,h2⟩
 | append r s x=>
  simp only [wpOp,opK_eq] at h
  obtain⟨⟨k,ds⟩,h1,h2⟩:=elemsW_ok _ _ _ h
  simp only [evOp,appendV,h1]
  exact appendNW_ok _ _ _ _ _ _ _ _ h2
 | appendF r s x=>
  simp only [wpOp,opK_eq] at h
  obtain⟨⟨k,ds⟩,h1,h2⟩:=elemsW_ok _ _ _ h
  obtain⟨⟨v,m'⟩,h3,h4⟩:=appendNW_ok _ _ _ _ _ _ _ _ h2
  obtain⟨d,h5,h6⟩:=freezeW_ok _ _ _ _ h4
  exact⟨(_,_),by simp only [evOp,appendV,h1,h3,h5];rfl,h6⟩
 | strB x=>
  simp only [wpOp,opK_eq] at h
  simp only [evOp]
  split at h
  ·rename_i hx;rw [hx];exact⟨(_,_),rfl,h⟩
  ·exact h.elim
 | appendS r s x=>
  simp only [wpOp,opK_eq] at h
  simp only [evOp]
  split at h
  ·rename_i hx hs;rw [hx,hs]
   simp only [appendSV]
   exact appendNW_ok _ _ _ _ _ _ _ _ h
  ·exact h.elim
 | copy sz a b=>
  simp only [wpOp,opK_eq] at h
  obtain⟨⟨k,ds⟩,h1,h2⟩:=elemsW_ok _ _ _ h
  simp only [evOp,copyV,h1]
  split at h2
  ·rename_i hx;rw [hx]
   rw [lookK_eq] at h2
   split at h2
   ·rename_i hl;simp only [hl]
    rw [updK_eq] at h2
    exact⟨(_,_),if_pos h2.need,h2.go⟩
   ·exact h2.elim
  ·exact h2.elim
 | minmax mx args=>
  simp only [wpOp,evsK_eq] at h
  obtain⟨v,h1,h2⟩:=minmaxW_ok _ _ _ h
  exact⟨(_,_),by simp only [evOp,h1];rfl,h2⟩
 | clear zero x=>
  simp only [wpOp,opK_eq] at h
  obtain⟨v,h1,h2⟩:=h.got
  exact⟨(_,_),by simp only [evOp,h1];rfl,h2⟩
def wpOp1 (E:Oracle) (cx:Cx) (e:Env) (m:Mem) (o:CO) (K:V→Mem→Prop):Prop:=
 match o with
 | ⟨dst,none,op⟩=>wpOp E cx (dst.getD 0) e m op K
 | ⟨dst,some (t,want),op⟩=>getK e t fun g=>
  match g with
  | .d (.bool b)=>(match want with
   | true=>Br b (wpOp E cx (dst.getD 0) e m op K) (K .skip m)
   | false=>Br b (K .skip m) (wpOp E cx (dst.getD 0) e m op K))
  | .skip=>K .skip m
  | _=>False
theorem wpOp1_ok {cx:Cx} {e:Env} {m:Mem} {o:CO} {K:V→Mem→Prop} (h:wpOp1 E cx e m o K):∃p,evOp1 E cx e m o=some p∧K p.1 p.2:=by
 obtain⟨dst,guard,op⟩:=o
 cases guard with
 | none=>exact wpOp_ok h
 | some g=>
  obtain⟨t,want⟩:=g
  simp only [wpOp1,getK_eq] at h
  simp only [evOp1]
  split at h
  ·rename_i b hb
   rw [hb]
   cases want<;>cases b
   ·exact wpOp_ok (h.no rfl)
   ·exact⟨(_,_),rfl,h.yes rfl⟩
   ·exact⟨(_,_),rfl,h.no rfl⟩
   ·exact wpOp_ok (h.yes rfl)
  ·rename_i hb;rw [hb];exact⟨(_,_),rfl,h⟩
  ·exact h.elim
def wpOps (E:Oracle) (cx:Cx):List CO→Env→Mem→(Env→Mem→Prop)→Prop
 | [],e,m,K=>K e m
 | o::r,e,m,K=>wpOp1 E cx e m o fun v m'=>put?K e o.dst v fun e'=>wpOps E cx r e' m' K
theorem wpOps_ok {cx:Cx}:∀(os:List CO) (e:Env) (m:Mem) (K:Env→Mem→Prop),wpOps E cx os e m K→∃p,evOps E cx os e m=some p∧K p.1 p.2
 | [],e,m,K,h=>⟨(e,m),rfl,h⟩
 | o::r,e,m,K,h=>by
  obtain⟨⟨v,m'⟩,h1,h2⟩:=wpOp1_ok h
  rw [put?K_eq] at h2
  obtain⟨p,h3,h4⟩:=wpOps_ok r _ _ K h2
  exact⟨p,by simp only [evOps,h1];exact h3,h4⟩
def seqK (K1:Env→Mem→Prop) (K:Ex→Env→Mem→Prop) (x:Ex) (e:Env) (m:Mem):Prop:=
 match x with
 | .normal=>K1 e m
 | .exit i=>K (.exit i) e m
 | .ret=>K .ret e m
def blockK (id:Nat) (K:Ex→Env→Mem→Prop) (x:Ex) (e:Env) (m:Mem):Prop:=
 match x with
 | .normal=>K .normal e m
 | .exit j=>(match Nat.beq j id with
  | true=>K .normal e m
  | false=>K (.exit j) e m)
 | .ret=>K .ret e m
def rangeK (cx:Cx) (i:Id) (e:Env) (K:Ex→Env→Mem→Prop) (m':Mem):Prop:=lookK m' i fun o=>
 match o with
 | some (.loop _ _ _ _ _ false _ j)=>belowK cx.nx m' fun mb=>
  (match lowB cx.nx (idsAll mb) with
  | true=>updK mb i .gone fun m2=>
   (match j with
   | none=>K .normal e m2
   | some (.exit id)=>K (.exit id) e m2
   | some .ret=>K .ret e m2)
  | false=>False)
 | _=>False
def wpC (E:Oracle) (cx:Cx):C→Env→Mem→(Ex→Env→Mem→Prop)→Prop
 | .skip,e,m,K=>K .normal e m
 | .label,e,m,K=>K .normal e m
 | .reg _ ops kill,e,m,K=>wpOps E cx ops e m fun e' m'=>withoutK kill e' fun e''=>K .normal e'' m'
 | .regC ops kill chk,e,m,K=>wpOps E cx ops e m fun e' m'=>Chk (disj e' chk) (withoutK kill e' fun e''=>K .normal e'' m')
 | .seq a b,e,m,K=>wpC E cx a e m (seqK (fun e' m'=>wpC E cx b e' m' K) K)
 | .cond c a b,e,m,K=>opK e c fun v=>
  match v with
  | .d (.bool t)=>Br t (wpC E cx a e m K) (wpC E cx b e m K)
  | _=>False
 | .block id c,e,m,K=>wpC E cx c e m (blockK id K)
 | .loop live c,e,m,K=>onlyK e live fun e'=>keysK m fun ks=>gcK ks e' m fun m'=>LoopW E cx live ks c e' m' K
 | .exit id,e,m,K=>K (.exit id) e m
 | .ret,e,m,K=>K .ret e m
 | .bad,_,_,_=>False
 | .scope c,e,m,K=>wpC E cx c e m K
 | .rangeM pre it x out nxt pair live ops kill code,e,m,K=>wpOps E cx pre e m fun e1 m1=>
  ∃x' e' m',rangeMC (fun e m=>(evOps E cx ops e m).bind fun q=>evC E cx code (without kill q.1) q.2) cx it x out nxt pair live e1 m1=some (x',e',m')∧K x' e' m'
 | .rangeFn slot f ps a b,e,m,K=>newK cx slot m fun i=>updK m i (.loop e ps a b cx.lv false false none) fun m1=>keysK m1 fun ks=>
  match lowB cx.nx ks with
  | true=>opK e f fun fv=>
   (match fv with
   | .fn g first caps=>In E cx.nx g (first ++[.yld i]++caps) m1 fun _ m'=>rangeK cx i e K m'
   | _=>False)
  | false=>False
theorem wpC_ok {cx:Cx}:∀(c:C) (e:Env) (m:Mem) (K:Ex→Env→Mem→Prop),wpC E cx c e m K→∃x e' m',evC E cx c e m=some (x,e',m')∧K x e' m'
 | .rangeM pre it x out nxt pair live ops kill code,e,m,K,h=>by
  obtain⟨p,h1,x',e',m',h2,h3⟩:=wpOps_ok pre e m _ h
  exact⟨x',e',m',by simp only [evC,h1,Option.bind_some,h2],h3⟩
 | .skip,e,m,K,h=>⟨_,_,_,rfl,h⟩
 | .label,e,m,K,h=>⟨_,_,_,rfl,h⟩
 | .exit _,e,m,K,h=>⟨_,_,_,rfl,h⟩
 | .ret,e,m,K,h=>⟨_,_,_,rfl,h⟩
 | .bad,_,_,_,h=>h.elim
 | .scope c,e,m,K,h=>by
  obtain⟨x,e',m',h1,h2⟩:=wpC_ok c e m K h
  exact⟨x,e',m',by simp only [evC];exact h1,h2⟩
 | .reg _ ops kill,e,m,K,h=>by
  obtain⟨p,h1,h2⟩:=wpOps_ok ops e m _ h
  rw [withoutK_eq] at h2
  exact⟨_,_,_,by simp only [evC,h1];rfl,h2⟩
 | .regC ops kill chk,e,m,K,h=>by
  obtain⟨p,h1,hc,h2⟩:=wpOps_ok ops e m _ h
  rw [withoutK_eq] at h2
  exact⟨_,_,_,by simp only [evC,h1,Option.bind_some];exact if_pos hc,h2⟩
 | .seq a b,e,m,K,h=>by
  obtain⟨x,e',m',h1,h2⟩:=wpC_ok a e m _ h
  cases x with
  | normal=>
   obtain⟨x2,e2,m2,h3,h4⟩:=wpC_ok b e' m' K h2
   exact⟨x2,e2,m2,by simp only [evC,h1];exact h3,h4⟩
  | _=>exact⟨_,_,_,by simp only [evC,h1],h2⟩
 | .cond c a b,e,m,K,h=>by
  simp only [wpC,opK_eq] at h
  simp only [evC]
  split at h
  ·rename_i t ht
   rw [ht]
   cases t with
   | true=>
    obtain⟨x2,e2,m2,h3,h4⟩:=wpC_ok a e m K (h.yes rfl)
    exact⟨x2,e2,m2,by simpa using h3,h4⟩
   | false=>
    obtain⟨x2,e2,m2,h3,h4⟩:=wpC_ok b e m K (h.no rfl)
    exact⟨x2,e2,m2,by simpa using h3,h4⟩
  ·exact h.elim
 | .block id c,e,m,K,h=>by
  obtain⟨x,e',m',h1,h2⟩:=wpC_ok c e m _ h
  cases x with
  | exit j=>
   simp only [blockK] at h2
   cases hb:Nat.beq j id with
   | true=>
    rw [hb] at h2
    exact⟨.normal,e',m',by simp only [evC,h1];exact if_pos (Nat.eq_of_beq_eq_true hb),h2⟩
   | false=>
    rw [hb] at h2
    have:j≠id:=fun hh=>by rw [hh,Nat.beq_refl] at hb;cases hb
    exact⟨.exit j,e',m',by simp only [evC,h1];exact if_neg this,h2⟩
  | _=>exact⟨_,_,_,by simp only [evC,h1],h2⟩
 | .loop live c,e,m,K,h=>by
  simp only [wpC,onlyK_eq,keysK_eq,gcK_eq] at h
  obtain⟨x,e',m',h1,h2⟩:=h.got
  exact⟨x,e',m',by simp only [evC,h1],h2⟩
 | .rangeFn slot f ps a b,e,m,K,h=>by
  simp only [wpC,newK_eq,updK_eq,keysK_eq,lowB_eq,opK_eq] at h
  simp only [evC]
  split at h
  ·rename_i hl
   rw [if_pos hl]
   split at h
   ·rename_i hf
    rw [hf]
    obtain⟨v,m',h1,h2⟩:=h.got
    simp only [h1]
    simp only [rangeK,lookK_eq,belowK_eq,lowB_eq,updK_eq] at h2
    split at h2
    ·rename_i hlk
     simp only [hlk]
     split at h2
     ·rename_i hl2
      simp only [if_pos hl2]
      split at h2<;>exact⟨_,_,_,rfl,h2⟩
     ·exact h2.elim
    ·exact h2.elim
   ·exact h.elim
  ·exact h.elim
def resW (m:Mem) (e:Env) (r:RV) (K:V→Prop):Prop:=
 match r with
 | .tmp t=>getK e t K
 | .cell t n=>getK e t fun a=>loadW n m a K
theorem resW_ok {m:Mem} {e:Env} {r:RV} {K:V→Prop} (h:resW m e r K):∃v,resV m e r=some v∧K v:=by
 cases r with
 | tmp t=>simp only [resW,getK_eq] at h;exact⟨_,rfl,h⟩
 | cell t n=>simp only [resW,getK_eq] at h;exact loadW_ok _ _ _ _ h
def resLW (m:Mem) (e:Env):List RV→(List V→Prop)→Prop
 | [],K=>K []
 | r::q,K=>resW m e r fun v=>resLW m e q fun vs=>K (v::vs)
theorem resLW_ok {m:Mem} {e:Env}:∀(l:List RV) (K:List V→Prop),resLW m e l K→∃vs,resVs m e l=some vs∧K vs
 | [],K,h=>⟨[],rfl,h⟩
 | r::q,K,h=>by
  obtain⟨v,h1,h2⟩:=resW_ok h
  obtain⟨vs,h3,h4⟩:=resLW_ok q _ h2
  exact⟨v::vs,by simp only [resVs,h1,h3],h4⟩
def resultsW (m:Mem) (e:Env) (rs:List RV) (K:V→Prop):Prop:=
 match rs with
 | []=>K (.tup [])
 | [r]=>resW m e r K
 | r::r2::rs=>resLW m e (r::r2::rs) fun vs=>K (.tup vs)
theorem resultsW_ok {m:Mem} {e:Env} {rs:List RV} {K:V→Prop} (h:resultsW m e rs K):∃v,results m e rs=some v∧K v:=by
 unfold resultsW at h
 split at h
 ·exact⟨_,rfl,h⟩
 ·exact resW_ok h
 ·obtain⟨vs,h1,h2⟩:=resLW_ok _ _ h
  exact⟨_,by simp only [results,h1];rfl,h2⟩
def endK (rs:List RV) (K:V→Mem→Prop) (x:Ex) (e:Env) (m:Mem):Prop:=
 match x with
 | .normal=>resultsW m e rs fun v=>K v m
 | .ret=>resultsW m e rs fun v=>K v m
 | .exit _=>False
def parK:Nat→List V→(Env→Prop)→Prop
 | _,[],K=>K []
 | i,v::r,K=>parK (i+1) r fun e=>K ((i,v)::e)
theorem parK_eq:∀(i:Nat) (l:List V) (K:Env→Prop),parK i l K=K (params i l)
 | _,[],_=>rfl
 | i,v::r,K=>by simp only [parK,params,parK_eq (i+1) r]
variable {Γ : Nat → Option CF} {X : Extern}
def bodyW (E:Oracle) (lv:Nat) (cf:CF) (args:List V) (m:Mem) (K:V→Mem→Prop):Prop:=parK 0 args fun e=>wpC E ⟨lv,lv+1⟩ cf.body e m (endK cf.results K)
theorem In.enter (hE:Lim Γ X E) {lv f:Nat} {args:List V} {m:Mem} {K:V→Mem→Prop} {cf:CF} (hX:X f=none) (hc:Γ f=some cf) (h:bodyW E lv cf args m K):In E lv f args m K:=by
 simp only [bodyW,parK_eq] at h
 obtain⟨x,e',m',h1,h2⟩:=wpC_ok _ _ _ _ h
 refine⟨?_⟩
 rw [hE.fix]
 simp only [step,hX,hc,h1]
 cases x with
 | normal=>
  simp only [endK] at h2
  obtain⟨v,h3,h4⟩:=resultsW_ok h2
  exact⟨v,m',by simp only [h3];rfl,h4⟩
 | ret=>
  simp only [endK] at h2
  obtain⟨v,h3,h4⟩:=resultsW_ok h2
  exact⟨v,m',by simp only [h3];rfl,h4⟩
 | exit i=>exact h2.elim
theorem Fc.enter (hE:Lim Γ X E) {f:Nat} {args:List V} {r:V} {cf:CF} (hX:X f=none) (hc:Γ f=some cf) (h:bodyW E 0 cf args [] fun v m'=>thawW m' v fun d=>Ret d r):Fc E f args r:=by
 obtain⟨v,m',h1,h2⟩:=(In.enter hE hX hc h).got
 obtain⟨d,h3,h4⟩:=thawW_ok _ _ _ h2
 exact⟨v,m',h1,by rw [h3,h4.eq]⟩
theorem Fc.extern (hE:Lim Γ X E) {f:Nat} {args:List V} {r v:V} {m':Mem} {x:List V→Mem→Option (V×Mem)} (hX:X f=some x) (h:x args []=some (v,m')) (ht:thaw m' v=some r):Fc E f args r:=
 ⟨v,m',by rw [hE.fix];simp only [step,hX,h];rfl,ht⟩
theorem In.extern (hE:Lim Γ X E) {lv f:Nat} {args:List V} {m:Mem} {K:V→Mem→Prop} {v:V} {m':Mem} {x:List V→Mem→Option (V×Mem)} (hX:X f=some x) (h:x args m=some (v,m')) (hk:K v m'):In E lv f args m K:=
 ⟨v,m',by rw [hE.fix];simp only [step,hX,h];rfl,hk⟩
theorem CallI.of {f:Nat} {args:List V} {r:V} {K:V→Prop} (h:Fc E f args r) (hk:K r):CallI E f args K:=⟨r,h,hk⟩
theorem Fc.comp (hE:Lim Γ X E) (n:Nat) {f:Nat} {args:List V} {v r:V} {m':Mem} (h:iter Γ X n (.call 0 f args [])=some (.val v m')) (ht:thaw m' v=some r):Fc E f args r:=⟨v,m',hE.of_iter n _ _ h,ht⟩
def againK (E:Oracle) (cx:Cx) (live:List Nat) (keep:List Id) (body:C) (K:Ex→Env→Mem→Prop) (x:Ex) (e:Env) (m:Mem):Prop:=
 match x with
 | .normal=>onlyK e live fun e2=>gcK keep e2 m fun m2=>LoopW E cx live keep body e2 m2 K
 | .exit i=>K (.exit i) e m
 | .ret=>K .ret e m
theorem LoopW.step (hE:Lim Γ X E) {cx:Cx} {live:List Nat} {keep:List Id} {body:C} {e:Env} {m:Mem} {K:Ex→Env→Mem→Prop} (h:wpC E cx body e m (againK E cx live keep body K)):LoopW E cx live keep body e m K:=by
 obtain⟨x,e',m',h1,h2⟩:=wpC_ok _ _ _ _ h
 refine⟨?_⟩
 rw [hE.fix]
 simp only [Go.Evl.step,h1]
 cases x with
 | normal=>
  simp only [againK,onlyK_eq,gcK_eq] at h2
  exact h2.got
 | exit i=>exact⟨_,_,_,rfl,h2⟩
 | ret=>exact⟨_,_,_,rfl,h2⟩
theorem LoopW.mono {cx:Cx} {live:List Nat} {keep:List Id} {body:C} {e:Env} {m:Mem} {K K':Ex→Env→Mem→Prop} (h:LoopW E cx live keep body e m K) (hk:∀x e m,K x e m→K' x e m):LoopW E cx live keep body e m K':=by
 obtain⟨x,e',m',h1,h2⟩:=h.got
 exact⟨x,e',m',h1,hk _ _ _ h2⟩
def zipK:List Nat→List V→Env→(Env→Prop)→Prop
 | t::r,v::s,e,K=>putK e t v fun e'=>zipK r s e' K
 | [],_,e,K=>K e
 | _::_,[],e,K=>K e
theorem zipK_eq:∀(ps:List Nat) (vs:List V) (e:Env) (K:Env→Prop),zipK ps vs e K=K (zipP ps vs e)
 | [],[],e,K=>rfl
 | [],_::_,e,K=>rfl
 | _::_,[],e,K=>rfl
 | t::r,v::s,e,K=>by simp only [zipK,zipP,putK_eq,zipK_eq r s]
def roundEnd (o:Id) (ks:List Id) (K:V→Mem→Prop) (x:Ex) (_:Env) (m2:Mem):Prop:=lookK m2 o fun ob=>
 match ob with
 | some (.loop e' ps' a' b' lv' true false _)=>
  (match x with
  | .normal=>updK m2 o (.loop e' ps' a' b' lv' false false none) fun m3=>gcK ks [] m3 fun m4=>K (.d (.bool true)) m4
  | .exit id=>updK m2 o (.loop e' ps' a' b' lv' false true (some (.exit id))) fun m3=>K (.d (.bool false)) m3
  | .ret=>updK m2 o (.loop e' ps' a' b' lv' false true (some .ret)) fun m3=>K (.d (.bool false)) m3)
 | _=>False
def roundMid (E:Oracle) (nx:Nat) (o:Id) (lv:Nat) (b:C) (ks:List Id) (K:V→Mem→Prop) (x:Ex) (e1:Env) (m1:Mem):Prop:=
 match x with
 | .normal=>lookK m1 o fun ob=>
  (match ob with
  | some (.loop e' ps' a' b' lv' false false j')=>updK m1 o (.loop e' ps' a' b' lv' true false j') fun m2=>wpC E ⟨lv,nx⟩ b e1 m2 (roundEnd o ks K)
  | _=>False)
 | _=>False
def roundW (E:Oracle) (nx:Nat) (o:Id) (args:List V) (m:Mem) (K:V→Mem→Prop):Prop:=lookK m o fun ob=>
 match ob with
 | some (.loop e ps a b lv false false _)=>
  (match Nat.beq ps.length args.length with
  | true=>zipK ps args e fun e0=>keysK m fun ks=>wpC E ⟨lv,nx⟩ a e0 m (roundMid E nx o lv b ks K)
  | false=>False)
 | _=>False
theorem Rnd.enter (hE:Lim Γ X E) {nx:Nat} {o:Id} {args:List V} {m:Mem} {K:V→Mem→Prop} (h:roundW E nx o args m K):Rnd E nx o args m K:=by
 refine⟨?_⟩
 rw [hE.fix]
 simp only [roundW,lookK_eq] at h
 simp only [Go.Evl.step]
 split at h
 ·rename_i hl
  simp only [hl]
  split at h
  ·rename_i hlen
   rw [if_pos (Nat.eq_of_beq_eq_true hlen)]
   simp only [zipK_eq,keysK_eq] at h
   obtain⟨x,e1,m1,h1,h2⟩:=wpC_ok _ _ _ _ h
   simp only [h1]
   cases x with
   | normal=>
    simp only [roundMid,lookK_eq] at h2
    split at h2
    ·rename_i hl1
     simp only [hl1]
     rw [updK_eq] at h2
     obtain⟨x,e2,m2,h3,h4⟩:=wpC_ok _ _ _ _ h2
     simp only [h3]
     simp only [roundEnd,lookK_eq] at h4
     split at h4
     ·rename_i hl2
      simp only [hl2]
      cases x with
      | normal=>
       simp only [updK_eq,gcK_eq] at h4
       exact⟨_,_,rfl,h4⟩
      | exit i=>
       simp only [updK_eq] at h4
       exact⟨_,_,rfl,h4⟩
      | ret=>
       simp only [updK_eq] at h4
       exact⟨_,_,rfl,h4⟩
     ·exact h4.elim
    ·exact h2.elim
   | exit i=>exact h2.elim
   | ret=>exact h2.elim
  ·exact h.elim
 ·exact h.elim
end
end Go.Evl
