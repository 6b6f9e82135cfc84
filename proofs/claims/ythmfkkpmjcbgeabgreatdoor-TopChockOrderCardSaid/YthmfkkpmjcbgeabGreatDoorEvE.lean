
/-
 The evaluator's limit, and what is to be shown for code to end well.
-/
import Derived.Test.YthmfkkpmjcbgeabGreatDoorEvSyn
namespace Go.Evl
def Le (F G:Oracle):Prop:=∀q r,F q=some r->G q=some r
structure yc7 (It:Nat->Oracle) (E:Oracle):Prop where
 up:∀n,Le (It n) (It (n+1))
 lim:∀q r,E q=some r↔∃n,It n q=some r
theorem yc7.le {It:Nat->Oracle} {E:Oracle} (h:yc7 It E) {n m:Nat} (hnm:n<=m):Le (It n) (It m):=by
 induction hnm with
 | refl=>exact fun _ _ h=>h
 | step _ ih=>exact fun q r hq=>h.up _ q r (ih q r hq)
structure zet {α:Type} (It:Nat->Oracle) (E:Oracle) (f:Oracle->Option α):Prop where
 mono:∀F G,Le F G->∀r,f F=some r->f G=some r
 reach:∀r,f E=some r->∃n,f (It n)=some r
section
variable {It : Nat -> Oracle} {E : Oracle} {α β : Type}
theorem zet.const {f:Oracle->Option α} (h:∀F G,f F=f G):zet It E f:=
 ⟨fun F G _ _ hr=>(h G F).trans hr,fun _ hr=>⟨0,(h _ E).trans hr⟩⟩
theorem zet.query (hc:yc7 It E) (q:Req):zet It E (fun F=>F q):=
 ⟨fun _ _ h r hr=>h q r hr,fun r hr=>(hc.lim q r).1 hr⟩
theorem zet.bind (hc:yc7 It E) {f:Oracle->Option α} {k:α->Oracle->Option β} (hf:zet It E f) (hk:∀a,zet It E (k a)):zet It E (fun F=>(f F).bind fun a=>k a F):=by
 refine⟨fun F G h r hr=> ?_,fun r hr=> ?_⟩
 ·obtain⟨a,h1,h2⟩:=Option.bind_eq_some_iff.1 hr
  exact Option.bind_eq_some_iff.2 ⟨a,hf.mono F G h a h1,(hk a).mono F G h r h2⟩
 ·obtain⟨a,h1,h2⟩:=Option.bind_eq_some_iff.1 hr
  obtain⟨n,hn⟩:=hf.reach a h1
  obtain⟨k',hk'⟩:=(hk a).reach r h2
  refine⟨max n k',Option.bind_eq_some_iff.2 ⟨a,hf.mono _ _ (hc.le (Nat.le_max_left _ _)) a hn,(hk a).mono _ _ (hc.le (Nat.le_max_right _ _)) r hk'⟩⟩
theorem zet.of_eq {f g:Oracle->Option α} (h:∀F,f F=g F) (hg:zet It E g):zet It E f:=by
 have:f=g:=funext h
 rw [this];exact hg
theorem zu1 {p:Prop} [Decidable p] {f g:Oracle->Option α} (hf:zet It E f) (hg:zet It E g):zet It E (fun F=>if p then f F else g F):=by
 by_cases h:p
 ·exact zet.of_eq (fun F=>if_pos h) hf
 ·exact zet.of_eq (fun F=>if_neg h) hg
variable (hc : yc7 It E)
include hc
theorem z0r (cx:Cx) (f:V) (args:List V) (m:Mem):zet It E (fun F=>zhh F cx f args m):=by
 cases f with
 | fn f first caps=>
  refine zet.of_eq (g:=fun F=>(F (.call cx.nx f (first ++args++caps) m)).bind fun r=>match r with| .val v m'=>some (v,m')|_=>none) (fun F=> ?_) (zet.bind hc (zet.query hc _) fun r=>zet.const fun _ _=>rfl)
  simp only [zhh]
  cases F (.call cx.nx f (first ++args++caps) m) with
  | none=>rfl
  | some r=>cases r<;>rfl
 | yld o=>
  refine zet.of_eq (g:=fun F=>(F (.round cx.nx o args m)).bind fun r=>match r with| .val v m'=>some (v,m')|_=>none) (fun F=> ?_) (zet.bind hc (zet.query hc _) fun r=>zet.const fun _ _=>rfl)
  simp only [zhh]
  cases F (.round cx.nx o args m) with
  | none=>rfl
  | some r=>cases r<;>rfl
 | _=>exact zet.const fun _ _=>rfl
theorem zv7 (cx:Cx) (slot:Nat) (shared imm:Bool) (f:V) (args:List V) (m:Mem):zet It E (fun F=>zpc F cx slot shared imm f args m):=by
 unfold zpc
 refine zu1 (zu1 ?_ (zet.const fun _ _=>rfl)) ?_
 ·refine zet.of_eq (g:=fun F=>(zhh F cx f args m).bind fun p=>if zmj cx.nx (zhm (zgp cx.nx p.2)) then zrb cx slot cx.nx imm (zgp cx.nx p.2) p.2 p.1 else none) (fun F=> ?_) (zet.bind hc (z0r hc cx f args m) fun r=>zet.const fun _ _=>rfl)
  cases zhh F cx f args m<;>rfl
 ·cases f with
  | fn f first caps=>
   dsimp only
   generalize zen false m (first ++args++caps)=o
   cases o with
   | none=>exact zet.const fun _ _=>rfl
   | some ds=>
    refine zet.of_eq (g:=fun F=>(F (.call 0 f (asV ds) [])).bind fun r=>match r with| .val v m'=>zrb cx slot 0 imm m m' v|_=>none) (fun F=> ?_) (zet.bind hc (zet.query hc _) fun r=>zet.const fun _ _=>rfl)
    simp only
    cases F (.call 0 f (asV ds) []) with
    | none=>rfl
    | some r=>cases r<;>rfl
  | _=>exact zet.const fun _ _=>rfl
theorem z8t (cx:Cx) (slot:Nat) (e:Env) (m:Mem) (op:COp):zet It E (fun F=>zd2 F cx slot e m op):=by
 cases op with
 | call s i f args=>exact zv7 hc cx slot s i _ _ m
 | callD f args=>
  simp only [zd2]
  split
  ·split
   ·exact zv7 hc cx slot false true _ _ m
   ·exact zet.const fun _ _=>rfl
  ·exact zet.const fun _ _=>rfl
 | callR i f args rs=>
  refine zet.of_eq (g:=fun F=>(zpc F cx slot true i (yat (f.ev e)) (evs e args) m).bind fun p=>if yao m p.2 (rs.map (get e))=true then some p else none) (fun F=> ?_) (zet.bind hc (zv7 hc cx slot true i _ _ m) fun p=>zet.const fun _ _=>rfl)
  simp only [zd2]
  cases zpc F cx slot true i (yat (f.ev e)) (evs e args) m<;>rfl
 | _=>exact zet.const fun _ _=>rfl
theorem yii (cx:Cx) (e:Env) (m:Mem) (o:CO):zet It E (fun F=>zfc F cx e m o):=by
 obtain⟨dst,guard,op⟩:=o
 cases guard with
 | none=>exact z8t hc cx _ e m op
 | some g=>
  obtain⟨t,want⟩:=g
  simp only [zfc]
  split
  ·split
   ·exact z8t hc cx _ e m op
   ·exact zet.const fun _ _=>rfl
  ·exact zet.const fun _ _=>rfl
  ·exact zet.const fun _ _=>rfl
theorem zxa (cx:Cx):∀(os:List CO) (e:Env) (m:Mem),zet It E (fun F=>zpv F cx os e m)
 | [],e,m=>zet.const fun _ _=>rfl
 | o::r,e,m=>by
  refine zet.of_eq (g:=fun F=>(zfc F cx e m o).bind fun p=>zpv F cx r (put? e o.dst p.1) p.2) (fun F=> ?_) (zet.bind hc (yii hc cx e m o) fun p=>zxa cx r _ _)
  simp only [zpv]
  cases zfc F cx e m o<;>rfl
def yws:Res->Option (Ex×Env×Mem)
 | .st x e' m'=>some (x,e',m')
 | _=>none
def ypz (cx:Cx) (i:Id) (e:Env):Res->Option (Ex×Env×Mem)
 | .val _ m'=>
  match look m' i with
  | some (.loop _ _ _ _ _ false _ j)=>
   if zmj cx.nx (zhm (zgp cx.nx m')) then
    let m2:=upd (zgp cx.nx m') i .gone
    match j with
    | none=>some (.normal,e,m2)
    | some j=>some (j.ex,e,m2)
   else none
  | _=>none
 | _=>none
theorem zj4 (cx:Cx):∀(c:C) (e:Env) (m:Mem),zet It E (fun F=>evC F cx c e m)
 | .skip,e,m=>zet.const fun _ _=>rfl
 | .label,e,m=>zet.const fun _ _=>rfl
 | .exit _,e,m=>zet.const fun _ _=>rfl
 | .ret,e,m=>zet.const fun _ _=>rfl
 | .scope c,e,m=>by simp only [evC];exact zj4 cx c e m
 | .reg _ ops kill,e,m=>by
  refine zet.of_eq (g:=fun F=>(zpv F cx ops e m).bind fun p=>some (.normal,zmu kill p.1,p.2)) (fun F=> ?_) (zet.bind hc (zxa hc cx ops e m) fun p=>zet.const fun _ _=>rfl)
  simp only [evC]
  cases zpv F cx ops e m<;>rfl
 | .regC ops kill chk,e,m=>zet.bind hc (zxa hc cx ops e m) fun p=>zet.const fun _ _=>rfl
 | .seq a b,e,m=>by
  refine zet.of_eq (g:=fun F=>(evC F cx a e m).bind fun p=>match p with|(.normal,e',m')=>evC F cx b e' m'|p=>some p) (fun F=> ?_) (zet.bind hc (zj4 cx a e m) fun p=> ?_)
  ·simp only [evC]
   cases evC F cx a e m with
   | none=>rfl
   | some p=>obtain⟨x,e',m'⟩:=p;cases x<;>rfl
  ·obtain⟨x,e',m'⟩:=p
   cases x with
   | normal=>exact zj4 cx b e' m'
   | _=>exact zet.const fun _ _=>rfl
 | .cond c a b,e,m=>by
  simp only [evC]
  split
  ·exact zu1 (zj4 cx a e m) (zj4 cx b e m)
  ·exact zet.const fun _ _=>rfl
 | .block id c,e,m=>by
  refine zet.of_eq (g:=fun F=>(evC F cx c e m).bind fun p=>match p with|(.exit j,e',m')=>if j=id then some (.normal,e',m') else some (.exit j,e',m')|p=>some p) (fun F=> ?_) (zet.bind hc (zj4 cx c e m) fun p=>zet.const fun _ _=>rfl)
  simp only [evC]
  cases evC F cx c e m with
  | none=>rfl
  | some p=>obtain⟨x,e',m'⟩:=p;cases x<;>rfl
 | .loop live c,e,m=>by
  refine zet.of_eq (g:=fun F=>(F (.loop cx live (keys m) c (only live e) (gc (keys m) (only live e) m))).bind yws) (fun F=> ?_) (zet.bind hc (zet.query hc _) fun p=>zet.const fun _ _=>rfl)
  simp only [evC]
  cases F (.loop cx live (keys m) c (only live e) (gc (keys m) (only live e) m)) with
  | none=>rfl
  | some r=>cases r<;>rfl
 | .rangeFn slot f ps a b,e,m=>by
  simp only [evC]
  refine zu1 ?_ (zet.const fun _ _=>rfl)
  cases f.ev e with
  | fn g first caps=>
   refine zet.of_eq (g:=fun F=>(F (.call cx.nx g (first ++[.yld (zc8 cx slot m)]++caps) (upd m (zc8 cx slot m) (.loop e ps a b cx.lv false false none)))).bind (ypz cx (zc8 cx slot m) e)) (fun F=> ?_) (zet.bind hc (zet.query hc _) fun p=>zet.const fun _ _=>rfl)
   simp only
   cases F (.call cx.nx g (first ++[.yld (zc8 cx slot m)]++caps) (upd m (zc8 cx slot m) (.loop e ps a b cx.lv false false none))) with
   | none=>rfl
   | some r=>cases r<;>rfl
  | _=>exact zet.const fun _ _=>rfl
theorem z8z (Γ:Nat->Option CF) (X:Extern) (q:Req):zet It E (fun F=>step Γ X F q):=by
 cases q with
 | call lv f args m=>
  simp only [step]
  cases X f with
  | some x=>exact zet.const fun _ _=>rfl
  | none=>
   cases Γ f with
   | none=>exact zet.const fun _ _=>rfl
   | some cf=>
    refine zet.of_eq (g:=fun F=>(evC F ⟨lv,lv+1⟩ cf.body (params 0 args) m).bind fun p=>match p with|(.normal,e,m')=>(results m' e cf.results).map fun v=> .val v m'|(.ret,e,m')=>(results m' e cf.results).map fun v=> .val v m'|_=>none) (fun F=> ?_) (zet.bind hc (zj4 hc _ _ _ _) fun p=>zet.const fun _ _=>rfl)
    simp only
    cases evC F ⟨lv,lv+1⟩ cf.body (params 0 args) m with
    | none=>rfl
    | some p=>obtain⟨x,e',m'⟩:=p;cases x<;>rfl
 | round nx o args m=>
  simp only [step]
  split
  ·rename_i e ps a b lv j hl
   refine zu1 ?_ (zet.const fun _ _=>rfl)
   refine zet.of_eq (g:=fun F=>(evC F ⟨lv,nx⟩ a (ytt ps args e) m).bind fun p=>match p with
    | (.normal,e1,m1)=>(match look m1 o with
     | some (.loop e' ps' a' b' lv' false false j')=>(evC F ⟨lv,nx⟩ b e1 (upd m1 o (.loop e' ps' a' b' lv' true false j'))).bind fun p=>match p with
      | (x,_,m2)=>match look m2 o with
       | some (.loop e' ps' a' b' lv' true false _)=>(match x with
        | .normal=>some (.val (.d (.bool true)) (gc (keys m) [] (upd m2 o (.loop e' ps' a' b' lv' false false none))))
        | .exit id=>some (.val (.d (.bool false)) (upd m2 o (.loop e' ps' a' b' lv' false true (some (.exit id)))))
        | .ret=>some (.val (.d (.bool false)) (upd m2 o (.loop e' ps' a' b' lv' false true (some .ret)))))
       | _=>none
     | _=>none)
    | _=>none) (fun F=> ?_) (zet.bind hc (zj4 hc _ _ _ _) fun p=> ?_)
   ·simp only
    cases evC F ⟨lv,nx⟩ a (ytt ps args e) m with
    | none=>rfl
    | some p=>
     obtain⟨x,e',m'⟩:=p
     cases x with
     | normal=>
      simp only [Option.bind]
      split
      ·rename_i e2 ps2 a2 b2 lv2 j2 hlk
       simp only [hlk]
       cases evC F ⟨lv,nx⟩ b e' (upd m' o (.loop e2 ps2 a2 b2 lv2 true false j2)) with
       | none=>rfl
       | some p=>rfl
      ·rename_i hno
       split
       ·rename_i hlk
        exact absurd hlk (hno _ _ _ _ _ _)
       ·rfl
     | exit id=>rfl
     | ret=>rfl
   ·obtain⟨x,e1,m1⟩:=p
    cases x with
    | normal=>
     simp only
     split
     ·exact zet.bind hc (zj4 hc _ _ _ _) fun p=>zet.const fun _ _=>rfl
     ·exact zet.const fun _ _=>rfl
    | _=>exact zet.const fun _ _=>rfl
  ·exact zet.const fun _ _=>rfl
 | loop cx live keep body e m=>
  simp only [step]
  refine zet.of_eq (g:=fun F=>(evC F cx body e m).bind fun p=>match p with|(.normal,e',m')=>F (.loop cx live keep body (only live e') (gc keep (only live e') m'))|(x,e',m')=>some (.st x e' m')) (fun F=> ?_) (zet.bind hc (zj4 hc _ _ _ _) fun p=> ?_)
  ·cases evC F cx body e m with
   | none=>rfl
   | some p=>obtain⟨x,e',m'⟩:=p;cases x<;>rfl
  ·obtain⟨x,e',m'⟩:=p
   cases x with
   | normal=>exact zet.query hc _
   | _=>exact zet.const fun _ _=>rfl
end
structure Lim (Γ:Nat->Option CF) (X:Extern) (E:Oracle):Prop where
 fix:∀q,E q=step Γ X E q
 reach:∀q r,E q=some r->∃n,iter Γ X n q=some r
theorem z1u {Γ:Nat->Option CF} {X:Extern} {F G:Oracle} (h:Le F G):Le (step Γ X F) (step Γ X G):=by
 have hc:yc7 (fun _=>G) G:=⟨fun _ _ _ h=>h,fun _ _=>⟨fun h=>⟨0,h⟩,fun h=>h.elim fun _ h=>h⟩⟩
 exact fun q r hr=>(z8z hc Γ X q).mono F G h r hr
theorem ybj (Γ:Nat->Option CF) (X:Extern):∀n,Le (iter Γ X n) (iter Γ X (n+1))
 | 0=>fun _ _ h=>by simp [iter] at h
 | n+1=>z1u (ybj Γ X n)
theorem exists_lim (Γ:Nat->Option CF) (X:Extern):∃E,Lim Γ X E:=by
 have hd:∀q:Req,∃a:Option Res,∀r,a=some r↔∃n,iter Γ X n q=some r:=by
  intro q
  by_cases h:∃r,∃n,iter Γ X n q=some r
  ·obtain⟨r,n,hn⟩:=h
   refine⟨some r,fun r'=>⟨fun h=>⟨n,by rw [hn,h]⟩,fun⟨k,hk⟩=> ?_⟩⟩
   have up:∀a b,a<=b->Le (iter Γ X a) (iter Γ X b):=by
    intro a b hab
    induction hab with
    | refl=>exact fun _ _ h=>h
    | step _ ih=>exact fun q r hq=>ybj Γ X _ q r (ih q r hq)
   rw [<-up n (max n k) (Nat.le_max_left _ _) q r hn,up k (max n k) (Nat.le_max_right _ _) q r' hk]
  ·exact⟨none,fun r=>⟨fun h=>(nomatch h),fun hn=>absurd ⟨r,hn⟩ h⟩⟩
 have ⟨E,hE⟩:=Classical.axiomOfChoice hd
 have hc:yc7 (iter Γ X) E:=⟨ybj Γ X,hE⟩
 refine⟨E,⟨fun q=> ?_,fun q r h=>(hE q r).1 h⟩⟩
 apply Option.ext
 intro r
 constructor
 ·intro h
  obtain⟨n,hn⟩:=(hE q r).1 h
  cases n with
  | zero=>simp [iter] at hn
  | succ n=>exact z1u (fun q r h=>(hE q r).2 ⟨n,h⟩) q r hn
 ·intro h
  obtain⟨n,hn⟩:=(z8z hc Γ X q).reach r h
  exact(hE q r).2 ⟨n+1,hn⟩
theorem Lim.of_iter {Γ:Nat->Option CF} {X:Extern} {E:Oracle} (h:Lim Γ X E):∀(n:Nat) (q:Req) (r:Res),iter Γ X n q=some r->E q=some r
 | 0,_,_,hn=>by simp [iter] at hn
 | n+1,q,r,hn=>by
  rw [h.fix]
  exact z1u (fun q r=>h.of_iter n q r) q r hn
end Go.Evl
namespace Go.Evl
structure zbk (p k:Prop):Prop where
 need:p
 go:k
structure Br (t:Bool) (a b:Prop):Prop where
 yes:t=true->a
 no:t=false->b
structure Cmp (p a b:Prop):Prop where
 yes:p->a
 no:¬p->b
structure Wr (k:IntKind) (x:Int) (K:Int->Prop):Prop where
 go:K (k.wrap x)
structure Rem (a b:Int) (K:Int->Prop):Prop where
 ne:b≠0
 go:K (a.tmod b)
structure Quo (k:IntKind) (a b:Int) (K:Int->Prop):Prop where
 ne:b≠0
 go:K (k.wrap (a.tdiv b))
structure zcj (cs:List D) (off:Nat) (K:D->Prop):Prop where
 got:∃d,cs[off]? =some d/\K d
structure yg3 (cs:List V) (off:Nat) (K:V->Prop):Prop where
 got:∃d,cs[off]? =some d/\K d
structure za0 (cs:List D) (off n:Nat) (K:List D->Prop):Prop where
 le:off+n<=cs.length
 go:K (win cs off n)
structure z7v (s:List UInt8) (i:Nat) (K:UInt8->Prop):Prop where
 got:∃b,s[i]? =some b/\K b
structure zb4 {α:Type} (o:Option α) (K:α->Prop):Prop where
 got:∃a,o=some a/\K a
def Fc (E:Oracle) (f:Nat) (args:List V) (r:V):Prop:=∃v m',E (.call 0 f args [])=some (.val v m')/\ybb m' v=some r
structure zaf (E:Oracle) (f:Nat) (args:List V) (K:V->Prop):Prop where
 got:∃r,Fc E f args r/\K r
structure zdo (E:Oracle) (f:Nat) (args:List V) (cx:Cx) (slot:Nat) (m:Mem) (K:V->Mem->Prop):Prop where
 got:∃v m' p,E (.call 0 f args [])=some (.val v m')/\settle cx slot 0 m m' v=some p/\K p.1 p.2
structure In (E:Oracle) (lv f:Nat) (args:List V) (m:Mem) (K:V->Mem->Prop):Prop where
 got:∃v m',E (.call lv f args m)=some (.val v m')/\K v m'
structure Rnd (E:Oracle) (nx:Nat) (o:Id) (args:List V) (m:Mem) (K:V->Mem->Prop):Prop where
 got:∃v m',E (.round nx o args m)=some (.val v m')/\K v m'
structure zad (E:Oracle) (cx:Cx) (live:List Nat) (keep:List Id) (body:C) (e:Env) (m:Mem) (K:Ex->Env->Mem->Prop):Prop where
 got:∃x e' m',E (.loop cx live keep body e m)=some (.st x e' m')/\K x e' m'
structure Chk (b:Bool) (k:Prop):Prop where
 need:b=true
 go:k
structure Ret (a b:V):Prop where
 eq:a=b
def ypr:Env->Nat->(V->Prop)->Prop
 | [],_,K=>K .undef
 | (u,v)::r,t,K=>match Nat.beq u t with
  | true=>K v
  | false=>ypr r t K
theorem zr4:∀(e:Env) (t:Nat) (K:V->Prop),ypr e t K=K (get e t)
 | [],_,_=>rfl
 | (u,v)::r,t,K=>by
  simp only [ypr,get]
  cases h:Nat.beq u t with
  | true=>simp [Nat.eq_of_beq_eq_true h]
  | false=>
   have:u≠t:=fun hh=>by rw [hh,Nat.beq_refl] at h;cases h
   simp only [if_neg this]
   exact zr4 r t K
def opK (e:Env) (x:Opd) (K:V->Prop):Prop:=
 match x with
 | .t n=>ypr e n K
 | .k v=>K v
theorem zct (e:Env) (x:Opd) (K:V->Prop):opK e x K=K (x.ev e):=by
 cases x with
 | t n=>exact zr4 e n K
 | k v=>rfl
def ymd (e:Env):List Opd->(List V->Prop)->Prop
 | [],K=>K []
 | x::r,K=>opK e x fun v=>ymd e r fun vs=>K (v::vs)
theorem zp4 (e:Env):∀(l:List Opd) (K:List V->Prop),ymd e l K=K (evs e l)
 | [],_=>rfl
 | x::r,K=>by simp only [ymd,evs,zct,zp4 e r]
def yim (e:Env):List Nat->(List V->Prop)->Prop
 | [],K=>K []
 | t::r,K=>ypr e t fun v=>yim e r fun vs=>K (v::vs)
theorem zy7 (e:Env):∀(l:List Nat) (K:List V->Prop),yim e l K=K (l.map (get e))
 | [],_=>rfl
 | t::r,K=>by simp only [yim,zr4,zy7 e r,List.map_cons]
def opK? (e:Env) (x:Option Opd) (K:Option V->Prop):Prop:=
 match x with
 | none=>K none
 | some x=>opK e x fun v=>K (some v)
theorem opK?_eq (e:Env) (x:Option Opd) (K:Option V->Prop):opK? e x K=K (x.map (·.ev e)):=by
 cases x with
 | none=>rfl
 | some x=>exact zct e x _
def ywu:Env->Nat->V->(Env->Prop)->Prop
 | [],t,v,K=>K [(t,v)]
 | (u,x)::r,t,v,K=>match Nat.beq u t with
  | true=>K ((t,v)::r)
  | false=>ywu r t v fun r'=>K ((u,x)::r')
theorem ybh:∀(e:Env) (t:Nat) (v:V) (K:Env->Prop),ywu e t v K=K (put e t v)
 | [],_,_,_=>rfl
 | (u,x)::r,t,v,K=>by
  simp only [ywu,put]
  cases h:Nat.beq u t with
  | true=>simp [Nat.eq_of_beq_eq_true h]
  | false=>
   have:u≠t:=fun hh=>by rw [hh,Nat.beq_refl] at h;cases h
   simp only [if_neg this]
   exact ybh r t v _
def put?K (e:Env) (t:Option Nat) (v:V) (K:Env->Prop):Prop:=
 match t with
 | none=>K e
 | some t=>ywu e t v K
theorem put?K_eq (e:Env) (t:Option Nat) (v:V) (K:Env->Prop):put?K e t v K=K (put? e t v):=by
 cases t with
 | none=>rfl
 | some t=>exact ybh e t v K
def yxc:List Nat->Nat->Bool
 | [],_=>false
 | u::r,t=>match Nat.beq u t with
  | true=>true
  | false=>yxc r t
theorem yjg:∀(l:List Nat) (t:Nat),yxc l t=l.elem t
 | [],_=>rfl
 | u::r,t=>by
  simp only [yxc]
  cases h:Nat.beq u t with
  | true=>simp [Nat.eq_of_beq_eq_true h]
  | false=>
   have:t≠u:=fun hh=>by rw [hh,Nat.beq_refl] at h;cases h
   simp only [yjg r t,List.elem_cons]
   have:(t==u)=false:=by simpa using this
   rw [this]
def zqo (kill:List Nat):Env->(Env->Prop)->Prop
 | [],K=>K []
 | (u,v)::r,K=>match yxc kill u with
  | true=>zqo kill r K
  | false=>zqo kill r fun r'=>K ((u,v)::r')
theorem zns (kill:List Nat):∀(e:Env) (K:Env->Prop),zqo kill e K=K (zmu kill e)
 | [],_=>rfl
 | (u,v)::r,K=>by
  simp only [zqo,yjg]
  cases h:kill.elem u with
  | true=>
   have hm:u∈kill:=by simpa using h
   simp only [zns kill r];simp [zmu,hm]
  | false=>
   have hm:u∉kill:=by simpa using h
   simp only [zns kill r];simp [zmu,hm]
def yi2 (e:Env):List Nat->(Env->Prop)->Prop
 | [],K=>K []
 | t::r,K=>ypr e t fun v=>yi2 e r fun r'=>K ((t,v)::r')
theorem z7n (e:Env):∀(live:List Nat) (K:Env->Prop),yi2 e live K=K (only live e)
 | [],_=>rfl
 | t::r,K=>by simp only [yi2,zr4,z7n e r];rfl
def idB (i j:Id):Bool:=
 match Nat.beq i.slot j.slot with
 | true=>(match Nat.beq i.lv j.lv with
  | true=>Nat.beq i.k j.k
  | false=>false)
 | false=>false
theorem z6b {i j:Id} (h:idB i j=true):i=j:=by
 obtain⟨a,b,c⟩:=i
 obtain⟨x,y,z⟩:=j
 simp only [idB] at h
 split at h
 ·rename_i h1
  split at h
  ·rename_i h2
   rw [Nat.eq_of_beq_eq_true h1,Nat.eq_of_beq_eq_true h2,Nat.eq_of_beq_eq_true h]
  ·cases h
 ·cases h
theorem z26 {i j:Id} (h:idB i j=false):i≠j:=by
 rintro rfl
 obtain⟨a,b,c⟩:=i
 simp [idB,Nat.beq_refl] at h
def zkq:Mem->Id->(Option Ob->Prop)->Prop
 | [],_,K=>K none
 | (j,o)::r,i,K=>match idB j i with
  | true=>K (some o)
  | false=>zkq r i K
theorem zcy:∀(m:Mem) (i:Id) (K:Option Ob->Prop),zkq m i K=K (look m i)
 | [],_,_=>rfl
 | (j,o)::r,i,K=>by
  simp only [zkq,look]
  cases h:idB j i with
  | true=>simp [z6b h]
  | false=>simp only [if_neg (z26 h)];exact zcy r i K
def zye:Mem->Id->Ob->(Mem->Prop)->Prop
 | [],i,o,K=>K [(i,o)]
 | (j,x)::r,i,o,K=>match idB j i with
  | true=>K ((i,o)::r)
  | false=>zye r i o fun r'=>K ((j,x)::r')
theorem zel:∀(m:Mem) (i:Id) (o:Ob) (K:Mem->Prop),zye m i o K=K (upd m i o)
 | [],_,_,_=>rfl
 | (j,x)::r,i,o,K=>by
  simp only [zye,upd]
  cases h:idB j i with
  | true=>simp [z6b h]
  | false=>simp only [if_neg (z26 h)];exact zel r i o _
def yiu:List Id->Id->Bool
 | [],_=>false
 | u::r,t=>match idB u t with
  | true=>true
  | false=>yiu r t
theorem ykz:∀(l:List Id) (t:Id),yiu l t=l.elem t
 | [],_=>rfl
 | u::r,t=>by
  simp only [yiu]
  cases h:idB u t with
  | true=>simp [z6b h]
  | false=>
   have h':t≠u:=fun hh=>z26 h hh.symm
   simp only [ykz r t,List.elem_cons]
   have:(t==u)=false:=by simpa using h'
   rw [this]
def gcF (a b c:List Id):Mem->(Mem->Prop)->Prop
 | [],K=>K []
 | (i,o)::r,K=>match yiu a i with
  | true=>gcF a b c r fun r'=>K ((i,o)::r')
  | false=>(match yiu b i with
   | true=>gcF a b c r fun r'=>K ((i,o)::r')
   | false=>(match yiu c i with
    | true=>gcF a b c r fun r'=>K ((i,o)::r')
    | false=>gcF a b c r K))
theorem yqj (a b c:List Id):∀(m:Mem) (K:Mem->Prop),gcF a b c m K=K (m.filter fun p=>a.elem p.1||b.elem p.1||c.elem p.1)
 | [],_=>rfl
 | (i,o)::r,K=>by
  simp only [gcF,ykz]
  cases ha:a.elem i<;>cases hb:b.elem i<;>cases hc:c.elem i<;>simp only [yqj a b c r,List.filter_cons,ha,hb,hc]<;>rfl
def gcK (keep:List Id) (e:Env) (m:Mem) (K:Mem->Prop):Prop:=
 match m with
 | []=>K []
 | _::_=>gcF keep (yit e) (zhm m) m fun m1=>gcF keep (yit e) (zhm m1) m1 fun m2=>gcF keep (yit e) (zhm m2) m2 K
theorem ymz (keep:List Id) (e:Env) (m:Mem) (K:Mem->Prop):gcK keep e m K=K (gc keep e m):=by
 cases m with
 | nil=>rfl
 | cons p r=>simp only [gcK,yqj];rfl
def z4q (lv slot:Nat):Mem->(Nat->Prop)->Prop
 | [],K=>K 0
 | (j,_)::r,K=>match Nat.beq j.slot slot with
  | true=>(match Nat.beq j.lv lv with
   | true=>z4q lv slot r fun n=>K (max (j.k+1) n)
   | false=>z4q lv slot r K)
  | false=>z4q lv slot r K
theorem ztn (lv slot:Nat):∀(m:Mem) (K:Nat->Prop),z4q lv slot m K=K (freeK lv slot m)
 | [],_=>rfl
 | (j,o)::r,K=>by
  simp only [z4q,freeK]
  cases h1:Nat.beq j.slot slot with
  | false=>
   have:j.slot≠slot:=fun hh=>by rw [hh,Nat.beq_refl] at h1;cases h1
   simp only [this,and_false,if_false]
   exact ztn lv slot r K
  | true=>
   cases h2:Nat.beq j.lv lv with
   | false=>
    have:j.lv≠lv:=fun hh=>by rw [hh,Nat.beq_refl] at h2;cases h2
    simp only [this,false_and,if_false]
    exact ztn lv slot r K
   | true=>simp only [Nat.eq_of_beq_eq_true h1,Nat.eq_of_beq_eq_true h2,and_self,if_true,ztn lv slot r]
def yk0 (cx:Cx) (slot:Nat) (m:Mem) (K:Id->Prop):Prop:=z4q cx.lv slot m fun n=>K ⟨cx.lv,slot,n⟩
theorem zmx (cx:Cx) (slot:Nat) (m:Mem) (K:Id->Prop):yk0 cx slot m K=K (zc8 cx slot m):=ztn _ _ _ _
def yds (cx:Cx) (slot:Nat):List ygl->Mem->(List V->Mem->Prop)->Prop
 | [],m,K=>K [] m
 | .z x::r,m,K=>yds cx slot r m fun vs m'=>K (.d x::vs) m'
 | .own s::r,m,K=>yk0 cx slot m fun i=>zye m i (.row s.wr s.t s.sz 0 []) fun m1=>yds cx slot r m1 fun vs m'=>K (.ref i 0 0 0::vs) m'
theorem zzr (cx:Cx) (slot:Nat):∀(l:List ygl) (m:Mem) (K:List V->Mem->Prop),yds cx slot l m K=K (zbw cx slot l m).1 (zbw cx slot l m).2
 | [],_,_=>rfl
 | .z x::r,m,K=>by simp only [yds,zbw,zzr cx slot r]
 | .own s::r,m,K=>by simp only [yds,zbw,zmx,zel,zzr cx slot r]
mutual
def zhu (any:Bool) (m:Mem):V->(D->Prop)->Prop
 | .d x,K=>K x
 | .agg cs,K=>zuh any m cs fun ds=>K (.agg ds)
 | .fn f [] [],K=>K (.fn f)
 | .ref o off len top,K=>zkq m o fun x=>
  match x with
  | some (.row wr _ sz n xs)=>
   (match (!wr||any) with
   | true=>zbk (n=top/\off+len<=n) (K (.list len (if off=0/\len=n then xs else win xs (off*sz) (len*sz))))
   | false=>False)
  | _=>False
 | _,_=>False
def zuh (any:Bool) (m:Mem):List V->(List D->Prop)->Prop
 | [],K=>K []
 | v::r,K=>zhu any m v fun d=>zuh any m r fun ds=>K (d::ds)
end
mutual
theorem zv9 (any:Bool) (m:Mem):∀(v:V) (K:D->Prop),zhu any m v K->∃d,freeze any m v=some d/\K d
 | .d x,K,h=>⟨x,rfl,h⟩
 | .agg cs,K,h=>by
  obtain⟨ds,h1,h2⟩:=zof any m cs _ h
  exact⟨_,by simp only [freeze,h1];rfl,h2⟩
 | .ref o off len top,K,h=>by
  simp only [zhu,zcy] at h
  simp only [freeze]
  cases hl:look m o with
  | none=>rw [hl] at h;exact h.elim
  | some x=>
   rw [hl] at h
   cases x with
   | row wr t sz n xs=>
    simp only at h ⊢
    split at h
    ·rename_i hw
     have hc:(wr=false\/any=true)/\n=top/\off+len<=n:=⟨by cases wr<;>simp_all,h.need⟩
     exact⟨_,if_pos hc,h.go⟩
    ·exact h.elim
   | _=>exact h.elim
 | .tup _,_,h=>(by simp only [zhu] at h)
 | .ptr ..,_,h=>(by simp only [zhu] at h)
 | .lptr ..,_,h=>(by simp only [zhu] at h)
 | .fn f [] [],K,h=>⟨_,rfl,h⟩
 | .fn _ (_::_) _,_,h=>(by simp only [zhu] at h)
 | .fn _ [] (_::_),_,h=>(by simp only [zhu] at h)
 | .yld _,_,h=>(by simp only [zhu] at h)
 | .mp _,_,h=>(by simp only [zhu] at h)
 | .it _,_,h=>(by simp only [zhu] at h)
 | .skip,_,h=>(by simp only [zhu] at h)
 | .undef,_,h=>(by simp only [zhu] at h)
theorem zof (any:Bool) (m:Mem):∀(vs:List V) (K:List D->Prop),zuh any m vs K->∃ds,zen any m vs=some ds/\K ds
 | [],K,h=>⟨[],rfl,h⟩
 | v::r,K,h=>by
  obtain⟨d,h1,h2⟩:=zv9 any m v _ h
  obtain⟨ds,h3,h4⟩:=zof any m r _ h2
  exact⟨d::ds,by simp only [zen,h1,h3],h4⟩
end
def yua:List D->(List V->Prop)->Prop
 | [],K=>K []
 | x::r,K=>yua r fun vs=>K (.d x::vs)
theorem z69:∀(l:List D) (K:List V->Prop),yua l K=K (asV l)
 | [],_=>rfl
 | x::r,K=>by simp only [yua,asV,z69 r]
def znm (m:Mem) (v:V) (K:V->Prop):Prop:=
 match v with
 | .tup vs=>zuh true m vs fun xs=>yua xs fun ys=>K (.tup ys)
 | v=>zhu true m v fun d=>K (.d d)
theorem ye6 (m:Mem) (v:V) (K:V->Prop) (h:znm m v K):∃r,ybb m v=some r/\K r:=by
 have simple:∀v:V,(∀vs,v≠ .tup vs)->zhu true m v (fun d=>K (.d d))->∃r,ybb m v=some r/\K r:=by
  intro v hv h
  obtain⟨d,h1,h2⟩:=zv9 true m v _ h
  refine⟨.d d,?_,h2⟩
  unfold ybb
  split
  ·rename_i vs;exact absurd rfl (hv vs)
  ·rw [h1];rfl
 cases v with
 | tup vs=>
  obtain⟨xs,h1,h2⟩:=zof true m vs _ h
  rw [z69] at h2
  exact⟨_,by simp only [ybb,h1];rfl,h2⟩
 | _=>exact simple _ (by intro vs hh;cases hh) h
def ypf:List V->(Option (List D)->Prop)->Prop
 | [],K=>K (some [])
 | .d x::r,K=>ypf r fun o=>
  match o with
  | some ds=>K (some (x::ds))
  | none=>K none
 | _::_,K=>K none
theorem yf8:∀(l:List V) (K:Option (List D)->Prop),ypf l K=K (zri l)
 | [],_=>rfl
 | v::r,K=>by
  cases v with
  | d x=>simp only [ypf,zri,yf8 r];cases zri r<;>rfl
  | _=>rfl
def yw9 (cs:List V) (K:V->Prop):Prop:=ypf cs fun o=>
 match o with
 | some ds=>K (.d (.agg ds))
 | none=>K (.agg cs)
theorem ylf (cs:List V) (K:V->Prop):yw9 cs K=K (ybp cs):=by
 simp only [yw9,yf8,ybp]
 cases zri cs<;>rfl
def z82 (v:V) (K:List V->Prop):Prop:=
 match v with
 | .d (.agg cs)=>yua cs K
 | .agg cs=>K cs
 | .tup _=>False
 | .skip=>False
 | .undef=>False
 | v=>K [v]
theorem z12 (v:V) (K:List V->Prop) (h:z82 v K):∃cs,cellsOf v=some cs/\K cs:=by
 cases v with
 | d x=>
  cases x with
  | agg cs=>simp only [z82,z69] at h;exact⟨_,rfl,h⟩
  | _=>exact⟨_,rfl,h⟩
 | tup _=>exact h.elim
 | skip=>exact h.elim
 | undef=>exact h.elim
 | _=>exact⟨_,rfl,h⟩
def over {α:Type}:List α->Nat->List α->List α
 | cs,0,[]=>cs
 | _::cs,0,x::xs=>x::over cs 0 xs
 | c::cs,n+1,xs=>c::over cs n xs
 | [],_,_=>[]
theorem z9t {α:Type}:∀(cs xs:List α),xs.length<=cs.length->over cs 0 xs=xs++cs.drop xs.length
 | cs,[],_=>by simp [over]
 | [],x::xs,h=>by simp at h
 | c::cs,x::xs,h=>by
  simp only [over,z9t cs xs (by simpa using h)]
  simp
theorem ycs {α:Type}:∀(cs:List α) (off:Nat) (xs:List α),off+xs.length<=cs.length->over cs off xs=patch cs off xs
 | cs,0,xs,h=>by
  rw [z9t cs xs (by omega)]
  simp [patch]
 | [],n+1,xs,h=>by simp at h
 | c::cs,n+1,xs,h=>by
  simp only [over,ycs cs n xs (by simp at h;omega),patch]
  simp [Nat.add_right_comm]
def z4b {α:Type}:List α->Nat->List α->(List α->Prop)->Prop
 | cs,0,[],K=>K cs
 | _::cs,0,x::xs,K=>z4b cs 0 xs fun r=>K (x::r)
 | c::cs,n+1,xs,K=>z4b cs n xs fun r=>K (c::r)
 | [],_,_,K=>K []
theorem zzv {α:Type}:∀(cs:List α) (off:Nat) (xs:List α) (K:List α->Prop),z4b cs off xs K=K (over cs off xs)
 | cs,0,[],K=>by simp only [z4b,over]
 | [],0,x::xs,K=>by simp only [z4b,over]
 | c::cs,0,x::xs,K=>by simp only [z4b,over,zzv cs 0 xs]
 | [],n+1,xs,K=>by simp only [z4b,over]
 | c::cs,n+1,xs,K=>by simp only [z4b,over,zzv cs n xs]
def yss (cs:List V):List (Nat×Nat×V)->(List V->Prop)->Prop
 | [],K=>K cs
 | (off,n,v)::r,K=>z82 v fun xs=>
  match Nat.beq xs.length n with
  | true=>(match Nat.ble (off+n) cs.length with
   | true=>z4b cs off xs fun cs'=>yss cs' r K
   | false=>False)
  | false=>False
theorem yey:∀(l:List (Nat×Nat×V)) (cs:List V) (K:List V->Prop),yss cs l K->∃cs',z9c cs l=some cs'/\K cs'
 | [],cs,K,h=>⟨cs,rfl,h⟩
 | (off,n,v)::r,cs,K,h=>by
  obtain⟨xs,h1,h2⟩:=z12 v _ h
  split at h2
  ·rename_i e1
   split at h2
   ·rename_i e2
    have e1':=Nat.eq_of_beq_eq_true e1
    have e2':=Nat.le_of_ble_eq_true e2
    rw [zzv] at h2
    obtain⟨cs',h3,h4⟩:=yey r _ K h2
    refine⟨cs',?_,h4⟩
    simp only [z9c,h1]
    rw [if_pos ⟨e1',e2'⟩,<-ycs cs off xs (by omega)]
    exact h3
   ·exact h2.elim
  ·exact h2.elim
def yen (e:Env):List (Nat×Nat×Opd)->(List (Nat×Nat×V)->Prop)->Prop
 | [],K=>K []
 | (a,b,x)::r,K=>opK e x fun v=>yen e r fun l=>K ((a,b,v)::l)
theorem z93 (e:Env):∀(l:List (Nat×Nat×Opd)) (K:List (Nat×Nat×V)->Prop),yen e l K=K (zu6 e l)
 | [],_=>rfl
 | (a,b,x)::r,K=>by simp only [yen,zu6,zct,z93 e r]
def ybn (m:Mem) (v:V) (K:List D->Prop):Prop:=zhu false m v fun d=>
 match d with
 | .agg cs=>K cs
 | x=>K [x]
theorem z5x (m:Mem) (v:V) (K:List D->Prop) (h:ybn m v K):∃cs,zti m v=some cs/\K cs:=by
 obtain⟨d,h1,h2⟩:=zv9 false m v _ h
 unfold zti
 rw [h1]
 cases d<;>exact⟨_,rfl,h2⟩
def yfg (sz:Nat) (m:Mem):List V->(List D->Prop)->Prop
 | [],K=>K []
 | v::r,K=>ybn m v fun x=>match Nat.beq x.length sz with
  | true=>yfg sz m r fun xs=>K (x++xs)
  | false=>False
theorem z2z (sz:Nat) (m:Mem):∀(l:List V) (K:List D->Prop),yfg sz m l K->∃ds,ztv sz m l=some ds/\K ds
 | [],K,h=>⟨[],rfl,h⟩
 | v::r,K,h=>by
  obtain⟨x,h1,h2⟩:=z5x m v _ h
  split at h2
  ·rename_i e
   obtain⟨xs,h3,h4⟩:=z2z sz m r _ h2
   refine⟨x++xs,?_,h4⟩
   simp only [ztv,h1,h3,if_pos (Nat.eq_of_beq_eq_true e)]
  ·exact h2.elim
structure zbe (n:Nat) (l h:Int) (K:Nat->Nat->Prop):Prop where
 ok:0<=h/\h<=n/\0<=l/\l<=h
 go:K l.toNat h.toNat
def zz2 (n:Nat) (lo hi:Option V) (K:Nat->Nat->Prop):Prop:=
 match lo,hi with
 | none,none=>K 0 n
 | some (.d (.int _ l)),none=>zbe n l n K
 | none,some (.d (.int _ h))=>zbe n 0 h K
 | some (.d (.int _ l)),some (.d (.int _ h))=>zbe n l h K
 | _,_=>False
theorem zw4 (n:Nat) (lo hi:Option V) (K:Nat->Nat->Prop) (h:zz2 n lo hi K):∃p,zcn n lo hi=some p/\K p.1 p.2:=by
 unfold zz2 at h
 split at h
 ·refine⟨(0,n),?_,h⟩
  simp [zcn]
 ·rename_i k l
  refine⟨(l.toNat,(n:Int).toNat),?_,h.go⟩
  simp only [zcn,asI]
  exact if_pos h.ok
 ·rename_i k l
  refine⟨((0:Int).toNat,l.toNat),?_,h.go⟩
  simp only [zcn,asI]
  exact if_pos h.ok
 ·rename_i k l k' l'
  refine⟨(l.toNat,l'.toNat),?_,h.go⟩
  simp only [zcn,asI]
  exact if_pos h.ok
 ·exact h.elim
def ykv (n:Option Nat) (cs:List V) (off:Nat) (K:V->Prop):Prop:=
 match n with
 | none=>yg3 cs off K
 | some n=>zbk (off+n<=cs.length) (yw9 (win cs off n) K)
theorem z9b (n:Option Nat) (cs:List V) (off:Nat) (K:V->Prop) (h:ykv n cs off K):∃v,ygw n cs off=some v/\K v:=by
 cases n with
 | none=>obtain⟨d,h1,h2⟩:=h.got;exact⟨d,h1,h2⟩
 | some n=>obtain⟨h1,h2⟩:=h;rw [ylf] at h2;exact⟨_,if_pos h1,h2⟩
def ya8 (n:Option Nat) (cs:List D) (off:Nat) (K:V->Prop):Prop:=
 match n with
 | none=>zcj cs off fun d=>K (.d d)
 | some n=>za0 cs off n fun ds=>K (.d (.agg ds))
theorem zvh (n:Option Nat) (cs:List D) (off:Nat) (K:V->Prop) (h:ya8 n cs off K):∃v,z34 n cs off=some v/\K v:=by
 cases n with
 | none=>obtain⟨d,h1,h2⟩:=h.got;exact⟨_,by simp only [z34,h1];rfl,h2⟩
 | some n=>obtain⟨h1,h2⟩:=h;exact⟨_,if_pos h1,h2⟩
def yoi (n:Option Nat) (m:Mem) (a:V) (K:V->Prop):Prop:=
 match a with
 | .lptr cs off=>ya8 n cs off K
 | .ptr o off top=>zkq m o fun x=>
  match x with
  | some (.cells _ cs)=>ykv n cs off K
  | some (.row _ _ _ l xs)=>zbk (l=top) (ya8 n xs off K)
  | _=>False
 | _=>False
theorem yd2 (n:Option Nat) (m:Mem) (a:V) (K:V->Prop) (h:yoi n m a K):∃v,z33 n m a=some v/\K v:=by
 unfold yoi at h
 split at h
 ·exact zvh _ _ _ _ h
 ·rename_i o off top
  rw [zcy] at h
  simp only [z33]
  split at h
  ·rename_i hl;rw [hl];exact z9b _ _ _ _ h
  ·rename_i hl;rw [hl]
   obtain⟨v,h1,h2⟩:=zvh _ _ _ _ h.go
   exact⟨v,(if_pos h.need).trans h1,h2⟩
  ·exact h.elim
 ·exact h.elim
def yfi (n:Nat) (m:Mem) (a x:V) (K:Mem->Prop):Prop:=
 match a with
 | .ptr o off top=>zkq m o fun y=>
  match y with
  | some (.cells t cs)=>z82 x fun xs=>zbk (xs.length=n/\off+n<=cs.length) (z4b cs off xs fun cs'=>zye m o (.cells t cs') K)
  | some (.row true t sz l xs)=>ybn m x fun ds=>zbk (ds.length=n/\off+n<=xs.length/\l=top) (zye m o (.row true t sz l (patch xs off ds)) K)
  | _=>False
 | _=>False
theorem z9m (n:Nat) (m:Mem) (a x:V) (K:Mem->Prop) (h:yfi n m a x K):∃m',zvd n m a x=some m'/\K m':=by
 unfold yfi at h
 split at h
 ·rename_i o off top
  rw [zcy] at h
  simp only [zvd]
  split at h
  ·rename_i hl;rw [hl]
   obtain⟨xs,h1,h2,h3⟩:=z12 x _ h
   rw [zzv,zel,ycs _ _ _ (by omega)] at h3
   simp only [h1]
   exact⟨_,if_pos h2,h3⟩
  ·rename_i hl;rw [hl]
   obtain⟨ds,h1,h2,h3⟩:=z5x m x _ h
   rw [zel] at h3
   simp only [h1]
   exact⟨_,if_pos h2,h3⟩
  ·exact h.elim
 ·exact h.elim
def yjd (sz:Nat) (m:Mem) (x:V) (lo hi mx:Option V) (K:V->Prop):Prop:=
 match x with
 | .d (.list n cs)=>zz2 n lo hi fun l h=>
  match mx with
  | none=>K (.d (.list (h-l) (win cs (l*sz) ((h-l)*sz))))
  | some _=>zbk (hi.isSome/\mx.bind asI=hi.bind asI) (K (.d (.list (h-l) (win cs (l*sz) ((h-l)*sz)))))
 | .ref o off len top=>zkq m o fun y=>
  match y with
  | some (.row wr _ sz' n xs)=>zbk (n=top/\off+len<=n/\sz'=sz) (zz2 len lo hi fun l h=>
   match mx with
   | none=>(match wr with
    | true=>K (.ref o (off+l) (h-l) top)
    | false=>K (.d (.list (h-l) (win xs ((off+l)*sz) ((h-l)*sz)))))
   | some _=>False)
  | _=>False
 | _=>False
theorem ykx (sz:Nat) (m:Mem) (x:V) (lo hi mx:Option V) (K:V->Prop) (h:yjd sz m x lo hi mx K):∃v,zva sz m x lo hi mx=some v/\K v:=by
 unfold yjd at h
 split at h
 ·obtain⟨p,h1,h2⟩:=zw4 _ _ _ _ h
  obtain⟨l,hh⟩:=p
  simp only [zva,h1]
  cases mx with
  | none=>exact⟨_,if_pos (Or.inl rfl),h2⟩
  | some y=>exact⟨_,if_pos (Or.inr h2.need),h2.go⟩
 ·rename_i o off len top
  rw [zcy] at h
  simp only [zva]
  split at h
  ·rename_i wr t1 sz1 n1 xs1 hl;rw [hl]
   obtain⟨h0,h⟩:=h
   obtain⟨p,h1,h2⟩:=zw4 _ _ _ _ h
   obtain⟨l,hh⟩:=p
   simp only [if_pos h0,h1]
   cases mx with
   | none=>
    cases wr with
    | true=>exact⟨_,by simp,h2⟩
    | false=>exact⟨_,by simp,h2⟩
   | some y=>exact h2.elim
  ·exact h.elim
 ·exact h.elim
def z7e (sz:Nat) (m:Mem) (x i:V) (K:V->Prop):Prop:=
 match i with
 | .d (.int _ i)=>
  (match x with
  | .d (.list n cs)=>zbk (0<=i/\i<n) (K (.lptr cs (i.toNat*sz)))
  | .ref o off len top=>zkq m o fun y=>
   match y with
   | some (.row _ _ sz' n _)=>zbk (0<=i/\i<len/\n=top/\off+len<=n/\sz'=sz) (K (.ptr o ((off+i.toNat)*sz) top))
   | _=>False
  | _=>False)
 | _=>False
theorem ydw (sz:Nat) (m:Mem) (x i:V) (K:V->Prop) (h:z7e sz m x i K):∃v,zk4 sz m x i=some v/\K v:=by
 unfold z7e at h
 split at h
 ·split at h
  ·exact⟨_,if_pos h.need,h.go⟩
  ·rw [zcy] at h
   split at h
   ·rename_i hl;simp only [zk4,asI,hl];exact⟨_,if_pos h.need,h.go⟩
   ·exact h.elim
  ·exact h.elim
 ·exact h.elim
def ynl (off:Nat) (m:Mem) (v:V) (K:V->Prop):Prop:=
 match v with
 | .lptr cs b=>K (.lptr cs (b+off))
 | .ptr o b top=>zkq m o fun x=>
  match x with
  | some (.cells ..)=>K (.ptr o (b+off) top)
  | some (.row _ _ _ n _)=>zbk (n=top) (K (.ptr o (b+off) top))
  | _=>False
 | _=>False
theorem yd3 (off:Nat) (m:Mem) (v:V) (K:V->Prop) (h:ynl off m v K):∃r,zf1 off m v=some r/\K r:=by
 unfold ynl at h
 split at h
 ·exact⟨_,rfl,h⟩
 ·rw [zcy] at h
  split at h
  ·rename_i hl;exact⟨_,by simp only [zf1,z8m,hl];rfl,h⟩
  ·rename_i hl;exact⟨_,by simp only [zf1,z8m,hl,h.need];simp,h.go⟩
  ·exact h.elim
 ·exact h.elim
def ypa (n:Option Nat) (x:V) (off:Nat) (K:V->Prop):Prop:=
 match x with
 | .d (.agg cs)=>ya8 n cs off K
 | .agg cs=>ykv n cs off K
 | _=>False
theorem yep (n:Option Nat) (x:V) (off:Nat) (K:V->Prop) (h:ypa n x off K):∃r,ydx n x off=some r/\K r:=by
 unfold ypa at h
 split at h
 ·exact zvh _ _ _ _ h
 ·exact z9b _ _ _ _ h
 ·exact h.elim
def yxf (m:Mem) (k:Kd) (v:V) (K:Nat->Prop):Prop:=
 match k with
 | .str=>(match v with
  | .d (.str s)=>K s.length
  | _=>False)
 | .slc=>(match v with
  | .d (.list n _)=>K n
  | .d .nil=>K 0
  | .ref o _ len top=>zkq m o fun x=>
   match x with
   | some (.row _ _ _ n _)=>zbk (n=top) (K len)
   | _=>False
  | _=>False)
 | .map=>(match v with
  | .mp o=>zkq m o fun x=>
   match x with
   | some (.map es)=>K es.length
   | _=>False
  | _=>False)
theorem yjp (m:Mem) (k:Kd) (v:V) (K:Nat->Prop) (h:yxf m k v K):∃n,ydp m k v=some n/\K n:=by
 unfold yxf at h
 split at h
 ·split at h
  ·exact⟨_,rfl,h⟩
  ·exact h.elim
 ·split at h
  ·exact⟨_,rfl,h⟩
  ·exact⟨_,rfl,h⟩
  ·rw [zcy] at h
   split at h
   ·rename_i hl;exact⟨_,by simp only [ydp,hl];exact if_pos h.need,h.go⟩
   ·exact h.elim
  ·exact h.elim
 ·split at h
  ·rw [zcy] at h
   split at h
   ·rename_i hl;exact⟨_,by simp only [ydp,hl],h⟩
   ·exact h.elim
  ·exact h.elim
def z77 (m:Mem) (v:V) (K:Nat->List D->Prop):Prop:=
 match v with
 | .d (.list n cs)=>K n cs
 | .d .nil=>K 0 []
 | .ref o off len top=>zkq m o fun x=>
  match x with
  | some (.row _ _ sz n xs)=>zbk (n=top/\off+len<=n) (K len (if off=0/\len=n then xs else win xs (off*sz) (len*sz)))
  | _=>False
 | _=>False
theorem z1l (m:Mem) (v:V) (K:Nat->List D->Prop) (h:z77 m v K):∃p,zxg m v=some p/\K p.1 p.2:=by
 unfold z77 at h
 split at h
 ·exact⟨_,rfl,h⟩
 ·exact⟨_,rfl,h⟩
 ·rw [zcy] at h
  split at h
  ·rename_i hl;exact⟨_,by simp only [zxg,hl];exact if_pos h.need,h.go⟩
  ·exact h.elim
 ·exact h.elim
def zzg (cx:Cx) (slot:Nat) (r:zdt) (m:Mem) (k:Nat) (ds:List D) (s:V) (K:V->Mem->Prop):Prop:=
 match s with
 | .ref o off len top=>zkq m o fun x=>
  match x with
  | some (.row wr t sz n xs)=>
   zbk (off=0/\len=n/\n=top/\t=r.t/\sz=r.sz/\ds.length=k*sz/\(n+k)*r.by_<=140737488355328/\n+k<=140737488355328)
    (zye m o (.row wr t sz (n+k) (xs++ds)) fun m'=>K (.ref o 0 (n+k) (n+k)) m')
  | _=>False
 | .d .nil=>zbk (k≠0/\ds.length=k*r.sz/\k*r.by_<=140737488355328/\k<=140737488355328) (yk0 cx slot m fun i=>zye m i (.row r.wr r.t r.sz k ds) fun m'=>K (.ref i 0 k k) m')
 | _=>False
theorem z2l (cx:Cx) (slot:Nat) (r:zdt) (m:Mem) (k:Nat) (ds:List D) (s:V) (K:V->Mem->Prop) (h:zzg cx slot r m k ds s K):
  ∃p,zoi cx slot r m (some (k,ds)) s=some p/\K p.1 p.2:=by
 unfold zzg at h
 split at h
 ·rw [zcy] at h
  split at h
  ·rename_i hl
   obtain⟨⟨h1,h2,h3,h4,h5,h6,h7,h8⟩,h9⟩:=h
   rw [zel] at h9
   refine⟨(_,_),?_,h9⟩
   simp only [zoi,hl]
   exact if_pos ⟨h1,h2,h3,h4,h5,h6,by simp [z6e,h7,h8]⟩
  ·exact h.elim
 ·obtain⟨⟨h1,h2,h3,h4⟩,h9⟩:=h
  rw [zmx,zel] at h9
  refine⟨(_,_),?_,h9⟩
  simp only [zoi]
  exact if_pos ⟨h1,h2,by simp [z6e,h3,h4]⟩
 ·exact h.elim
def eqB:D->D->(Prop->Prop)->Prop
 | .int k a,.int l b,K=>(match decide (k=l) with
  | true=>K (a=b)
  | false=>False)
 | .bool a,.bool b,K=>K (a=b)
 | .str a,.str b,K=>K (a=b)
 | _,_,_=>False
def yt1:List D->List D->(Prop->Prop)->Prop
 | [],[],K=>K True
 | [x],[y],K=>eqB x y K
 | x::x2::r,y::y2::s,K=>eqB x y fun p=>yt1 (x2::r) (y2::s) fun q=>K (p/\q)
 | _,_,_=>False
theorem yqi (x y:D) (K:Prop->Prop) (h:eqB x y K):∃b p,eqD x y=some b/\(b=true↔p)/\K p:=by
 unfold eqB at h
 split at h
 ·split at h
  ·rename_i a _ b _ e
   exact⟨decide (a=b),a=b,by simp only [eqD];exact if_pos (of_decide_eq_true e),by simp,h⟩
  ·exact h.elim
 ·rename_i a b
  exact⟨a==b,a=b,rfl,by simp,h⟩
 ·rename_i a b
  exact⟨a==b,a=b,rfl,by simp,h⟩
 ·exact h.elim
theorem yk1:∀(xs ys:List D) (K:Prop->Prop),yt1 xs ys K->∃b p,eqL xs ys=some b/\(b=true↔p)/\K p
 | [],[],_,h=>⟨true,True,rfl,by simp,h⟩
 | [x],[y],K,h=>by
  obtain⟨a,p,h1,h2,h3⟩:=yqi x y _ h
  exact⟨a&&true,p,by simp only [eqL,h1],by simpa using h2,h3⟩
 | x::x2::r,y::y2::s,K,h=>by
  obtain⟨a,p,h1,h2,h3⟩:=yqi x y _ h
  obtain⟨b,q,h4,h5,h6⟩:=yk1 (x2::r) (y2::s) _ h3
  refine⟨a&&b,p/\q,?_,by simp [h2,h5],h6⟩
  rw [eqL,h1,h4]
 | [],_::_,_,h=>(by simp only [yt1] at h)
 | _::_,[],_,h=>(by simp only [yt1] at h)
 | [_],_::_::_,_,h=>(by simp only [yt1] at h)
 | _::_::_,[_],_,h=>(by simp only [yt1] at h)
def yx3 (ks:Option (List KK)) (x y:V) (K:Bool->Prop):Prop:=
 match ks with
 | none=>
  (match x,y with
  | .d (.bool a),.d (.bool b)=>K (a==b)
  | _,_=>False)
 | some ks=>
  (match x,y with
  | .d (.agg a),.d (.agg b)=>
   (match zc7 ks a&&zc7 ks b with
   | true=>yt1 a b fun p=>Cmp p (K true) (K false)
   | false=>False)
  | _,_=>False)
theorem yra (ks:Option (List KK)) (x y:V) (K:Bool->Prop) (h:yx3 ks x y K):∃b,eqV ks x y=some b/\K b:=by
 unfold yx3 at h
 split at h
 ·split at h
  ·exact⟨_,rfl,h⟩
  ·exact h.elim
 ·split at h
  ·split at h
   ·rename_i hk
    obtain⟨b,p,h1,h2,h3⟩:=yk1 _ _ _ h
    refine⟨b,by simp only [eqV];rw [if_pos hk];exact h1,?_⟩
    cases b with
    | true=>exact h3.yes (h2.1 rfl)
    | false=>exact h3.no fun hp=>Bool.noConfusion (h2.2 hp)
   ·exact h.elim
  ·exact h.elim
def ys2 (p:Prop) (K:D->Prop):Prop:=Cmp p (K (.bool true)) (K (.bool false))
theorem yjv {p:Prop} [Decidable p] {K:D->Prop} (h:ys2 p K):K (.bool (decide p)):=by
 by_cases hp:p
 ·have:=h.yes hp;simpa [hp] using this
 ·have:=h.no hp;simpa [hp] using this
def yrx (p:Prop) (K:D->Prop):Prop:=Cmp p (K (.bool false)) (K (.bool true))
theorem yea {p:Prop} [Decidable p] {K:D->Prop} (h:yrx p K):K (.bool (!decide p)):=by
 by_cases hp:p
 ·have:=h.yes hp;simpa [hp] using this
 ·have:=h.no hp;simpa [hp] using this
def ycz (op:BinOp) (k:IntKind) (a b:Int) (K:D->Prop):Prop:=
 match op with
 | .add=>Wr k (a+b) fun n=>K (.int k n)
 | .sub=>Wr k (a-b) fun n=>K (.int k n)
 | .mul=>Wr k (a*b) fun n=>K (.int k n)
 | .quo=>Quo k a b fun n=>K (.int k n)
 | .rem=>Rem a b fun n=>K (.int k n)
 | .and=>K (.int k (k.wrap ((BitVec.ofInt k.bits a&&&BitVec.ofInt k.bits b).toNat)))
 | .or=>K (.int k (k.wrap ((BitVec.ofInt k.bits a|||BitVec.ofInt k.bits b).toNat)))
 | .xor=>K (.int k (k.wrap ((BitVec.ofInt k.bits a^^^BitVec.ofInt k.bits b).toNat)))
 | .andNot=>K (.int k (k.wrap ((BitVec.ofInt k.bits a&&&~~~ BitVec.ofInt k.bits b).toNat)))
 | .eql=>ys2 (a=b) K
 | .neq=>yrx (a=b) K
 | .lss=>ys2 (a<b) K
 | .leq=>ys2 (a<=b) K
 | .gtr=>ys2 (b<a) K
 | .geq=>ys2 (b<=a) K
 | _=>False
theorem yig (op:BinOp) (k:IntKind) (a b:Int) (K:D->Prop) (h:ycz op k a b K):∃d,zz1 op k a b=some d/\K d:=by
 cases op<;>simp only [ycz] at h<;>simp only [zz1]
 all_goals first
  | exact⟨_,rfl,h.go⟩
  | exact⟨_,if_neg h.ne,h.go⟩
  | exact⟨_,rfl,h⟩
  | exact⟨_,rfl,yjv h⟩
  | exact⟨_,rfl,yea h⟩
def ydd (op:BinOp) (a b:List UInt8) (K:D->Prop):Prop:=
 match op with
 | .add=>zbk (a.length+b.length<=zhb) (K (.str (a++b)))
 | .eql=>ys2 (a=b) K
 | .neq=>yrx (a=b) K
 | .lss=>K (.bool (zcp a b))
 | .leq=>K (.bool (zcp a b||a==b))
 | .gtr=>K (.bool (!(zcp a b||a==b)))
 | .geq=>K (.bool (!zcp a b))
 | _=>False
theorem yid (op:BinOp) (a b:List UInt8) (K:D->Prop) (h:ydd op a b K):∃d,z5n op a b=some d/\K d:=by
 have hb:(a==b)=decide (a=b):=by by_cases e:a=b<;>simp [e]
 cases op<;>simp only [ydd] at h<;>simp only [z5n]
 all_goals first
  | exact⟨_,if_pos h.need,h.go⟩
  | exact⟨_,rfl,by rw [hb];exact yjv h⟩
  | exact⟨_,rfl,by rw [hb];exact yea h⟩
  | exact⟨_,rfl,h⟩
def yxw (op:BinOp) (x y:V) (K:D->Prop):Prop:=
 match x,y with
 | .d (.int k a),.d (.int l b)=>
  (match op with
  | .shl=>zbk (0<=b) (Wr k (a*2^(min b.toNat k.bits)) fun n=>K (.int k n))
  | .shr=>zbk (0<=b) (K (.int k (a.fdiv (2^(min b.toNat k.bits)))))
  | _=>(match decide (k=l) with
   | true=>ycz op k a b K
   | false=>False))
 | .d (.str a),.d (.str b)=>ydd op a b K
 | _,_=>False
theorem ytf (op:BinOp) (x y:V) (K:D->Prop) (h:yxw op x y K):∃d,yvp op x y=some d/\K d:=by
 unfold yxw at h
 split at h
 ·simp only [yvp]
  split at h
  ·exact⟨_,if_pos h.need,h.go.go⟩
  ·exact⟨_,if_pos h.need,h.go⟩
  ·rename_i n1 n2
   split at h
   ·rename_i e
    obtain⟨d,h1,h2⟩:=yig _ _ _ _ _ h
    refine⟨d,?_,h2⟩
    cases op<;>first |exact(if_pos (of_decide_eq_true e)).trans h1|exact absurd rfl n1|exact absurd rfl n2
   ·exact h.elim
 ·exact yid _ _ _ _ h
 ·exact h.elim
def zty (mx:Bool) (k:IntKind):Int->List V->(D->Prop)->Prop
 | a,[],K=>K (.int k a)
 | a,.d (.int _ b)::r,K=>
  (match mx with
  | true=>zty mx k (if b>a then b else a) r K
  | false=>zty mx k (if b<a then b else a) r K)
 | _,_::_,_=>False
def ydg (mx:Bool) (l:List V) (K:D->Prop):Prop:=
 match l with
 | .d (.int k a)::r=>zty mx k a r K
 | _=>False
theorem zsg (mx:Bool) (k:IntKind):∀(l:List V) (a:Int) (K:D->Prop),zty mx k a l K->∃d,zn8.go mx k a l=some d/\K d
 | [],a,K,h=>⟨.int k a,rfl,h⟩
 | v::r,a,K,h=>by
  unfold zty at h
  split at h
  ·rename_i e;cases e
  ·rename_i _ _ _ a' b r' K' e
   obtain⟨rfl,rfl⟩:=(List.cons.injEq ..).mp e
   simp only [zn8.go]
   cases mx with
   | true=>exact zsg true k r _ _ h
   | false=>exact zsg false k r _ _ h
  ·exact h.elim
theorem yhj (mx:Bool) (l:List V) (K:D->Prop) (h:ydg mx l K):∃d,zn8 mx l=some d/\K d:=by
 unfold ydg at h
 split at h
 ·exact zsg mx _ _ _ K h
 ·exact h.elim
end Go.Evl
namespace Go.Evl
def yrm (nx:Nat):List Id->Bool
 | []=>true
 | i::r=>match Nat.blt i.lv nx with
  | true=>yrm nx r
  | false=>false
theorem z0w (nx:Nat):∀(l:List Id),yrm nx l=zmj nx l
 | []=>rfl
 | i::r=>by
  simp only [yrm]
  cases h:Nat.blt i.lv nx with
  | true=>
   have:i.lv<nx:=Nat.le_of_ble_eq_true h
   simp only [z0w nx r]
   simp [zmj,this]
  | false=>
   have:¬i.lv<nx:=fun hh=>by
    have:=Nat.ble_eq_true_of_le (show i.lv+1<=nx from hh)
    simp only [Nat.blt] at h
    rw [this] at h;cases h
   simp [zmj,this]
def ycv:Mem->(List Id->Prop)->Prop
 | [],K=>K []
 | (i,_)::r,K=>ycv r fun l=>K (i::l)
theorem zto:∀(m:Mem) (K:List Id->Prop),ycv m K=K (keys m)
 | [],_=>rfl
 | (i,o)::r,K=>by simp only [ycv,zto r];rfl
def z5i (nx:Nat):Mem->(Mem->Prop)->Prop
 | [],K=>K []
 | (i,o)::r,K=>match Nat.blt i.lv nx with
  | true=>z5i nx r fun r'=>K ((i,o)::r')
  | false=>z5i nx r K
theorem ztt (nx:Nat):∀(m:Mem) (K:Mem->Prop),z5i nx m K=K (zgp nx m)
 | [],_=>rfl
 | (i,o)::r,K=>by
  simp only [z5i]
  cases h:Nat.blt i.lv nx with
  | true=>
   have:i.lv<nx:=Nat.le_of_ble_eq_true h
   simp only [ztt nx r]
   simp [zgp,this]
  | false=>
   have:¬i.lv<nx:=fun hh=>by
    have:=Nat.ble_eq_true_of_le (show i.lv+1<=nx from hh)
    simp only [Nat.blt] at h
    rw [this] at h;cases h
   simp only [ztt nx r]
   simp [zgp,this]
def ykr (cx:Cx) (slot:Nat) (imm:Bool) (v:V) (m':Mem) (K:V->Mem->Prop):Prop:=z5i cx.nx m' fun old=>
 match yrm cx.nx (zhm old) with
 | true=>(match imm with
  | true=>(match (ids v).all fun i=>Nat.ble cx.nx i.lv with
   | true=>znm m' v fun r=>K r old
   | false=>False)
  | false=>zb4 (settle cx slot cx.nx old m' v) fun p=>K p.1 p.2)
 | false=>False
def ymp (E:Oracle) (cx:Cx) (slot:Nat) (shared imm:Bool) (f:V) (args:List V) (m:Mem) (K:V->Mem->Prop):Prop:=
 match shared with
 | false=>(match f with
  | .fn f first caps=>zuh false m (first ++args++caps) fun ds=>yua ds fun vs=>
   (match imm with
   | true=>zaf E f vs fun v=>K v m
   | false=>zdo E f vs cx slot m K)
  | _=>False)
 | true=>ycv m fun ks=>(match yrm cx.nx ks with
  | true=>(match f with
   | .fn f first caps=>In E cx.nx f (first ++args++caps) m fun v m'=>ykr cx slot imm v m' K
   | .yld o=>Rnd E cx.nx o args m fun v m'=>ykr cx slot imm v m' K
   | _=>False)
  | false=>False)
section
variable {E : Oracle}
theorem ye7 {cx:Cx} {slot:Nat} {imm:Bool} {v:V} {m':Mem} {K:V->Mem->Prop} (h:ykr cx slot imm v m' K):
  ∃p,(if zmj cx.nx (zhm (zgp cx.nx m')) then zrb cx slot cx.nx imm (zgp cx.nx m') m' v else none)=some p/\K p.1 p.2:=by
 simp only [ykr,ztt,z0w] at h
 split at h
 ·rename_i hl
  rw [if_pos hl]
  split at h
  ·split at h
   ·rename_i ha
    obtain⟨r,h1,h2⟩:=ye6 _ _ _ h
    refine⟨(r,zgp cx.nx m'),?_,h2⟩
    have ha':((ids v).all fun i=>decide (cx.nx<=i.lv))=true:=by
     rw [List.all_eq_true] at ha ⊢
     intro i hi
     simpa using Nat.le_of_ble_eq_true (ha i hi)
    simp only [zrb,if_true,ha',h1]
    rfl
   ·exact h.elim
  ·obtain⟨p,h1,h2⟩:=h.got
   exact⟨p,by simp only [zrb];exact h1,h2⟩
 ·exact h.elim
theorem z7l {cx:Cx} {slot:Nat} {shared imm:Bool} {f:V} {args:List V} {m:Mem} {K:V->Mem->Prop} (h:ymp E cx slot shared imm f args m K):
  ∃p,zpc E cx slot shared imm f args m=some p/\K p.1 p.2:=by
 unfold ymp at h
 split at h
 ·split at h
  ·rename_i f first caps
   obtain⟨ds,h1,h2⟩:=zof _ _ _ _ h
   rw [z69] at h2
   simp only [zpc,h1]
   split at h2
   ·obtain⟨r,⟨v,m',h3,h4⟩,h5⟩:=h2.got
    refine⟨(r,m),?_,h5⟩
    have hall:((ids v).all fun i=>decide (0<=i.lv))=true:=by simp
    simp only [h3,zrb,hall,h4]
    rfl
   ·obtain⟨v,m',p,h3,h4,h5⟩:=h2.got
    refine⟨p,?_,h5⟩
    simp only [h3,zrb,h4]
    rfl
  ·exact h.elim
 ·simp only [zto,z0w] at h
  split at h
  ·rename_i hl
   simp only [zpc,if_true,hl]
   split at h
   ·obtain⟨v,m',h1,h2⟩:=h.got
    simp only [zhh,h1]
    exact ye7 h2
   ·obtain⟨v,m',h1,h2⟩:=h.got
    simp only [zhh,h1]
    exact ye7 h2
   ·exact h.elim
  ·exact h.elim
structure z39 (key:D) (es:List (D×V)) (K:Option V->Prop):Prop where
 got:∃r,zwt key es=some r/\K r
structure yx7 (key:D) (x:V) (es:List (D×V)) (K:List (D×V)->Prop):Prop where
 got:∃r,yt6 key x es=some r/\K r
structure zk1 (s:List UInt8) (pos:Nat) (some_:Int->Nat->Prop) (none_:Prop):Prop where
 yes:pos<s.length->some_ (Utf8.decode ⟨s.toArray⟩ pos).1 (Utf8.decode ⟨s.toArray⟩ pos).2
 no:¬pos<s.length->none_
def yde (kk:KK) (zero:D) (ok:Bool) (m:Mem) (x key:V) (K:V->Prop):Prop:=
 match key with
 | .d key=>
  (match zkt kk key with
  | true=>(match x with
   | .mp o=>zkq m o fun ob=>
    match ob with
    | some (.map es)=>z39 key es fun r=>K (yo1 zero ok r)
    | _=>False
   | .d .nilm=>K (yo1 zero ok none)
   | _=>False)
  | false=>False)
 | _=>False
theorem yhf {kk:KK} {zero:D} {ok:Bool} {m:Mem} {x key:V} {K:V->Prop} (h:yde kk zero ok m x key K):∃v,zps kk zero ok m x key=some v/\K v:=by
 unfold yde at h
 split at h
 ·split at h
  ·rename_i hk
   simp only [zps,if_pos hk]
   split at h
   ·rw [zcy] at h
    split at h
    ·rename_i hl
     obtain⟨r,h1,h2⟩:=h.got
     exact⟨_,by simp only [hl,h1];rfl,h2⟩
    ·exact h.elim
   ·exact⟨_,rfl,h⟩
   ·exact h.elim
  ·exact h.elim
 ·exact h.elim
def yx2 (m:Mem) (x:V) (K:Nat->Bool->Prop):Prop:=
 match x with
 | .d .nilp=>K 0 true
 | .d .nilf=>K 4 true
 | .d .nili=>K 1 true
 | .d (.ifc true)=>K 1 false
 | .d .nilm=>K 3 true
 | .d (.fn _)=>K 4 false
 | .d (.list n _)=>zbk (n≠0) (K 2 false)
 | .fn .. =>K 4 false
 | .lptr .. =>K 0 false
 | .ptr o _ top=>zkq m o fun ob=>
  match ob with
  | some (.cells ..)=>K 0 false
  | some (.row _ _ _ n _)=>zbk (n=top) (K 0 false)
  | _=>False
 | .ref o off len top=>zkq m o fun ob=>
  match ob with
  | some (.row _ _ _ n _)=>zbk (n=top/\off+len<=n/\len≠0) (K 2 false)
  | _=>False
 | _=>False
theorem yts {m:Mem} {x:V} {K:Nat->Bool->Prop} (h:yx2 m x K):∃k b,yjt m x=some (k,b)/\K k b:=by
 unfold yx2 at h
 split at h
 ·exact⟨_,_,rfl,h⟩
 ·exact⟨_,_,rfl,h⟩
 ·exact⟨_,_,rfl,h⟩
 ·exact⟨_,_,rfl,h⟩
 ·exact⟨_,_,rfl,h⟩
 ·exact⟨_,_,rfl,h⟩
 ·rename_i n cs
  cases n with
  | zero=>exact absurd rfl h.need
  | succ n=>exact⟨_,_,rfl,h.go⟩
 ·exact⟨_,_,rfl,h⟩
 ·exact⟨_,_,rfl,h⟩
 ·rw [zcy] at h
  split at h
  ·rename_i hl;exact⟨_,_,by simp only [yjt,z8m,hl];rfl,h⟩
  ·rename_i hl;exact⟨_,_,by simp [yjt,z8m,hl,h.need],h.go⟩
  ·exact h.elim
 ·rw [zcy] at h
  split at h
  ·rename_i hl;exact⟨_,_,by simp only [yjt,hl];exact if_pos h.need,h.go⟩
  ·exact h.elim
 ·exact h.elim
def z7q (kk:KK) (m:Mem) (x key v:V) (K:V->Mem->Prop):Prop:=
 match x,key with
 | .mp o,.d key=>zkq m o fun ob=>
  (match ob with
  | some (.map es)=>(match zkt kk key&&(cellsOf v).isSome with
   | true=>yx7 key v es fun es'=>zye m o (.map es') fun m'=>K .skip m'
   | false=>False)
  | _=>False)
 | _,_=>False
theorem z4j {kk:KK} {m:Mem} {x key v:V} {K:V->Mem->Prop} (h:z7q kk m x key v K):∃m',zog kk m x key v=some m'/\K .skip m':=by
 unfold z7q at h
 split at h
 ·rw [zcy] at h
  split at h
  ·rename_i hl
   split at h
   ·rename_i hb
    obtain⟨r,h1,h2⟩:=h.got
    rw [zel] at h2
    exact⟨_,by simp only [zog,hl,if_pos hb,h1];rfl,h2⟩
   ·exact h.elim
  ·exact h.elim
 ·exact h.elim
def zks (E:Oracle) (cx:Cx) (slot:Nat) (e:Env) (m:Mem) (op:COp) (K:V->Mem->Prop):Prop:=
 match op with
 | .mv x=>opK e x fun v=>K v m
 | .ownNil r=>yk0 cx slot m fun i=>zye m i (.row r.wr r.t r.sz 0 []) fun m'=>K (.ref i 0 0 0) m'
 | .pick c a b=>opK e c fun c=>
  match c with
  | .d (.bool t)=>Br t (opK e a fun v=>K v m) (opK e b fun v=>K v m)
  | _=>False
 | .alloc t cs=>yds cx slot cs m fun vs m1=>yk0 cx slot m1 fun i=>zye m1 i (.cells t vs) fun m2=>K (.ptr i 0 0) m2
 | .box t x=>opK e x fun v=>z82 v fun cs=>yk0 cx slot m fun i=>zye m i (.cells t cs) fun m2=>K (.ptr i 0 0) m2
 | .build zero parts=>yds cx slot zero m fun vs m1=>yen e parts fun ps=>yss vs ps fun cs=>yw9 cs fun v=>K v m1
 | .mkList sz n parts=>ymd e parts fun vs=>yfg sz m vs fun ds=>K (.d (.list n ds)) m
 | .mkRow r n parts=>ymd e parts fun vs=>yfg r.sz m vs fun ds=>yk0 cx slot m fun i=>zye m i (.row r.wr r.t r.sz n ds) fun m2=>K (.ref i 0 n n) m2
 | .load n a=>opK e a fun a=>yoi n m a fun v=>K v m
 | .store n a x=>opK e a fun a=>opK e x fun x=>yfi n m a x fun m'=>K .skip m'
 | .nilCheck x=>opK e x fun v=>
  match v with
  | .fn f a b=>K (.fn f a b) m
  | .d (.fn f)=>K (.fn f [] []) m
  | .lptr cs o=>K (.lptr cs o) m
  | .ptr o off top=>zkq m o fun ob=>
   match ob with
   | some (.cells ..)=>K (.ptr o off top) m
   | some (.row _ _ _ n _)=>zbk (n=top) (K (.ptr o off top) m)
   | _=>False
  | _=>False
 | .bin op x y=>opK e x fun x=>opK e y fun y=>yxw op x y fun d=>K (.d d) m
 | .eqv ks neg x y=>opK e x fun x=>opK e y fun y=>yx3 ks x y fun b=>
  match neg with
  | true=>K (.d (.bool (!b))) m
  | false=>K (.d (.bool b)) m
 | .un op x=>opK e x fun x=>
  match op,x with
  | .not,.d (.bool b)=>K (.d (.bool (!b))) m
  | .neg,.d (.int k n)=>Wr k (0-n) fun n=>K (.d (.int k n)) m
  | _,_=>False
 | .conv k x=>opK e x fun x=>
  match x with
  | .d (.int _ n)=>Wr k n fun n=>K (.d (.int k n)) m
  | _=>False
 | .mkFunc f first caps=>ymd e first fun a=>ymd e caps fun b=>K (.fn f a b) m
 | .makeRow r zero n=>opK e n fun n=>
  match n with
  | .d (.int _ n)=>zbk (0<=n/\zero.length=r.sz/\n.toNat*r.by_<=140737488355328/\n.toNat<=140737488355328)
   (yk0 cx slot m fun i=>zye m i (.row r.wr r.t r.sz n.toNat (List.replicate n.toNat zero).flatten) fun m'=>K (.ref i 0 n.toNat n.toNat) m')
  | _=>False
 | .sliceS x lo hi=>opK e x fun x=>opK? e lo fun lo=>opK? e hi fun hi=>
  match x with
  | .d (.str s)=>zz2 s.length lo hi fun l h=>K (.d (.str (win s l (h-l)))) m
  | _=>False
 | .slice sz x lo hi mx=>opK e x fun x=>opK? e lo fun lo=>opK? e hi fun hi=>opK? e mx fun mx=>yjd sz m x lo hi mx fun v=>K v m
 | .fieldAddr off x=>opK e x fun x=>ynl off m x fun v=>K v m
 | .field off n x=>opK e x fun x=>ypa n x off fun v=>K v m
 | .idxAddr sz x i=>opK e x fun x=>opK e i fun i=>z7e sz m x i fun v=>K v m
 | .idxAddrA len sz x i=>opK e x fun x=>opK e i fun i=>
  match i with
  | .d (.int _ i)=>zbk (0<=i/\i<len) (ynl (i.toNat*sz) m x fun v=>K v m)
  | _=>False
 | .idxS x i=>opK e x fun x=>opK e i fun i=>
  match x,i with
  | .d (.str s),.d (.int _ i)=>zbk (0<=i) (z7v s i.toNat fun b=>K (.d (.int .u8 b.toNat)) m)
  | _,_=>False
 | .idxA len sz n x i=>opK e x fun x=>opK e i fun i=>
  match i with
  | .d (.int _ i)=>zbk (0<=i/\i<len) (ypa n x (i.toNat*sz) fun v=>K v m)
  | _=>False
 | .mkMap=>yk0 cx slot m fun i=>zye m i (.map []) fun m'=>K (.mp i) m'
 | .lookup kk zero ok x key=>opK e x fun x=>opK e key fun key=>yde kk zero ok m x key fun v=>K v m
 | .mapSet kk x key v=>opK e x fun x=>opK e key fun key=>opK e v fun v=>z7q kk m x key v K
 | .mapSetR kk x key v rs=>opK e x fun x=>opK e key fun key=>opK e v fun v=>yim e rs fun vs=>Chk (yfd x vs) (z7q kk m x key v K)
 | .callD f args=>opK e f fun f=>ymd e args fun vs=>
  match yat f with
  | .fn g [] []=>Chk (yu8 vs) (ymp E cx slot false true (.fn g [] []) vs m K)
  | _=>False
 | .nilEq kd neg x=>opK e x fun x=>yx2 m x fun k b=>Chk (Nat.beq k kd) (K (.d (.bool (if neg then !b else b))) m)
 | .loadD n a=>opK e a fun a=>
  match a with
  | .lptr cs off=>ya8 n cs off fun v=>K v m
  | _=>False
 | .idxAddrD sz x i=>opK e x fun x=>opK e i fun i=>
  match x with
  | .d (.list n cs)=>(match i with
   | .d (.int _ i)=>zbk (0<=i/\i<n) (K (.lptr cs (i.toNat*sz)) m)
   | _=>False)
  | _=>False
 | .sliceZ _ x hi mx=>opK e x fun x=>opK e hi fun hi=>opK e mx fun mx=>Chk (z9p hi&&z9p mx) (yxf m .slc x fun _=>K (.d .nil) m)
 | .appendIn r s x=>opK e s fun s=>opK e x fun x=>z77 m x fun k ds=>
  match s with
  | .ref o off len top=>zkq m o fun ob=>
   match ob with
   | some (.row true t sz n xs)=>zbk (n=top/\off+len+k<n/\t=r.t/\sz=r.sz/\ds.length=k*sz)
    (zye m o (.row true t sz n (patch xs ((off+len)*sz) ds)) fun m'=>K (.ref o off (len+k) top) m')
   | _=>False
  | _=>False
 | .rangeS x=>opK e x fun x=>
  match x with
  | .d (.str s)=>yk0 cx slot m fun i=>zye m i (.iter s 0) fun m'=>K (.it i) m'
  | _=>False
 | .nextS x=>opK e x fun x=>
  match x with
  | .it o=>zkq m o fun ob=>
   match ob with
   | some (.iter s pos)=>zk1 s pos (fun c w=>zye m o (.iter s (pos+w)) fun m'=>K (.tup [.d (.bool true),.d (.int .i64 pos),.d (.int .i32 c)]) m') (K (.tup [.d (.bool false)]) m)
   | _=>False
  | _=>False
 | .extract x i=>opK e x fun x=>
  match x with
  | .tup vs=>yg3 vs i fun v=>K v m
  | _=>False
 | .call shared imm f args=>opK e f fun f=>ymd e args fun vs=>ymp E cx slot shared imm (yat f) vs m K
 | .storeR n a x rs=>opK e a fun a=>opK e x fun x=>yim e rs fun vs=>Chk (yfs a vs) (yfi n m a x fun m'=>K .skip m')
 | .callR imm f args rs=>opK e f fun f=>ymd e args fun vs=>yim e rs fun ws=>ymp E cx slot true imm (yat f) vs m fun v m'=>Chk (yao m m' ws) (K v m')
 | .len k x=>opK e x fun x=>yxf m k x fun n=>K (.d (.int .i64 (n:Int))) m
 | .append r s x=>opK e s fun s=>opK e x fun x=>z77 m x fun k ds=>zzg cx slot r m k ds s K
 | .appendS r s x=>opK e s fun s=>opK e x fun x=>
  match x,s with
  | .d (.str b),.ref o off len top=>zzg cx slot r m b.length (bytesD b) (.ref o off len top) K
  | _,_=>False
 | .copy sz a b=>opK e a fun d=>opK e b fun s=>z77 m s fun k ds=>
  match d with
  | .ref o off len top=>zkq m o fun ob=>
   match ob with
   | some (.row true t sz' n xs)=>zbk (n=top/\off+len<=n/\sz'=sz/\ds.length=k*sz)
    (zye m o (.row true t sz' n (patch xs (off*sz) (ds.take (min k len*sz)))) fun m'=>K (.d (.int .i64 (min k len:Nat))) m')
   | _=>False
  | _=>False
 | .minmax mx args=>ymd e args fun vs=>ydg mx vs fun d=>K (.d d) m
 | .clear zero x=>opK e x fun x=>zb4 (yfj zero m x) fun m'=>K .skip m'
theorem ycp {cx:Cx} {slot:Nat} {e:Env} {m:Mem} {op:COp} {K:V->Mem->Prop} (h:zks E cx slot e m op K):∃p,zd2 E cx slot e m op=some p/\K p.1 p.2:=by
 cases op with
 | mv x=>simp only [zks,zct] at h;exact⟨(_,_),rfl,h⟩
 | ownNil r=>simp only [zks,zmx,zel] at h;exact⟨(_,_),rfl,h⟩
 | pick c a b=>
  simp only [zks,zct] at h
  simp only [zd2]
  split at h
  ·rename_i t ht
   rw [ht]
   refine⟨(if t then a.ev e else b.ev e,m),rfl,?_⟩
   cases t with
   | true=>exact h.yes rfl
   | false=>exact h.no rfl
  ·exact h.elim
 | alloc t cs=>simp only [zks,zzr,zmx,zel] at h;exact⟨(_,_),rfl,h⟩
 | box t x=>
  simp only [zks,zct] at h
  obtain⟨cs,h1,h2⟩:=z12 _ _ h
  simp only [zmx,zel] at h2
  exact⟨(_,_),by simp only [zd2,h1],h2⟩
 | build zero parts=>
  simp only [zks,zzr,z93] at h
  obtain⟨cs,h1,h2⟩:=yey _ _ _ h
  rw [ylf] at h2
  exact⟨(_,_),by simp only [zd2,h1];rfl,h2⟩
 | mkList sz n parts=>
  simp only [zks,zp4] at h
  obtain⟨cs,h1,h2⟩:=z2z _ _ _ _ h
  exact⟨(_,_),by simp only [zd2,h1];rfl,h2⟩
 | mkRow r n parts=>
  simp only [zks,zp4] at h
  obtain⟨cs,h1,h2⟩:=z2z _ _ _ _ h
  simp only [zmx,zel] at h2
  exact⟨(_,_),by simp only [zd2,h1];rfl,h2⟩
 | load n a=>
  simp only [zks,zct] at h
  obtain⟨v,h1,h2⟩:=yd2 _ _ _ _ h
  exact⟨(_,_),by simp only [zd2,h1];rfl,h2⟩
 | store n a x=>
  simp only [zks,zct] at h
  obtain⟨v,h1,h2⟩:=z9m _ _ _ _ _ h
  exact⟨(_,_),by simp only [zd2,h1];rfl,h2⟩
 | nilCheck x=>
  simp only [zks,zct] at h
  simp only [zd2]
  split at h
  ·rename_i hx;rw [hx];exact⟨(_,_),rfl,h⟩
  ·rename_i hx;rw [hx];exact⟨(_,_),rfl,h⟩
  ·rename_i hx;rw [hx];exact⟨(_,_),rfl,h⟩
  ·rename_i hx;rw [hx]
   rw [zcy] at h
   split at h
   ·rename_i hl;exact⟨(_,_),by simp only [z8m,hl];rfl,h⟩
   ·rename_i hl;exact⟨(_,_),by simp [z8m,hl,h.need],h.go⟩
   ·exact h.elim
  ·exact h.elim
 | bin op x y=>
  simp only [zks,zct] at h
  obtain⟨v,h1,h2⟩:=ytf _ _ _ _ h
  exact⟨(_,_),by simp only [zd2,h1];rfl,h2⟩
 | eqv ks neg x y=>
  simp only [zks,zct] at h
  obtain⟨v,h1,h2⟩:=yra _ _ _ _ h
  cases neg<;>exact⟨(_,_),by simp only [zd2,h1];rfl,h2⟩
 | un op x=>
  simp only [zks,zct] at h
  simp only [zd2]
  split at h
  ·rename_i hx;rw [hx];exact⟨(_,_),rfl,h⟩
  ·rename_i hx;rw [hx];exact⟨(_,_),rfl,h.go⟩
  ·exact h.elim
 | conv k x=>
  simp only [zks,zct] at h
  simp only [zd2]
  split at h
  ·rename_i hx;rw [hx];exact⟨(_,_),rfl,h.go⟩
  ·exact h.elim
 | mkFunc f first caps=>simp only [zks,zp4] at h;exact⟨(_,_),rfl,h⟩
 | makeRow r zero n=>
  simp only [zks,zct] at h
  simp only [zd2]
  split at h
  ·rename_i hx;rw [hx]
   obtain⟨⟨h1,h2,h3,h4⟩,h5⟩:=h
   simp only [zmx,zel] at h5
   exact⟨(_,_),if_pos ⟨h1,h2,by simp [z6e,h3,h4]⟩,h5⟩
  ·exact h.elim
 | sliceS x lo hi=>
  simp only [zks,zct,opK?_eq] at h
  simp only [zd2]
  split at h
  ·rename_i hx;rw [hx]
   obtain⟨p,h1,h2⟩:=zw4 _ _ _ _ h
   obtain⟨l,hh⟩:=p
   simp only [h1]
   exact⟨(_,_),rfl,h2⟩
  ·exact h.elim
 | slice sz x lo hi mx=>
  simp only [zks,zct,opK?_eq] at h
  obtain⟨v,h1,h2⟩:=ykx _ _ _ _ _ _ _ h
  exact⟨(_,_),by simp only [zd2,h1];rfl,h2⟩
 | fieldAddr off x=>
  simp only [zks,zct] at h
  obtain⟨v,h1,h2⟩:=yd3 _ _ _ _ h
  exact⟨(_,_),by simp only [zd2,h1];rfl,h2⟩
 | field off n x=>
  simp only [zks,zct] at h
  obtain⟨v,h1,h2⟩:=yep _ _ _ _ h
  exact⟨(_,_),by simp only [zd2,h1];rfl,h2⟩
 | idxAddr sz x i=>
  simp only [zks,zct] at h
  obtain⟨v,h1,h2⟩:=ydw _ _ _ _ _ h
  exact⟨(_,_),by simp only [zd2,h1];rfl,h2⟩
 | idxAddrA len sz x i=>
  simp only [zks,zct] at h
  simp only [zd2]
  split at h
  ·rename_i hx;rw [hx]
   obtain⟨h0,h⟩:=h
   obtain⟨v,h1,h2⟩:=yd3 _ _ _ _ h
   simp only [asI,if_pos h0,h1]
   exact⟨(_,_),rfl,h2⟩
  ·exact h.elim
 | idxS x i=>
  simp only [zks,zct] at h
  simp only [zd2]
  split at h
  ·rename_i hx hi;rw [hx,hi]
   obtain⟨h0,h⟩:=h
   obtain⟨b,h1,h2⟩:=h.got
   simp only [asI,if_pos h0,h1]
   exact⟨(_,_),rfl,h2⟩
  ·exact h.elim
 | idxA len sz n x i=>
  simp only [zks,zct] at h
  simp only [zd2]
  split at h
  ·rename_i hx;rw [hx]
   obtain⟨h0,h⟩:=h
   obtain⟨v,h1,h2⟩:=yep _ _ _ _ h
   simp only [asI,if_pos h0,h1]
   exact⟨(_,_),rfl,h2⟩
  ·exact h.elim
 | mkMap=>simp only [zks,zmx,zel] at h;exact⟨(_,_),rfl,h⟩
 | lookup kk zero ok x key=>
  simp only [zks,zct] at h
  obtain⟨v,h1,h2⟩:=yhf h
  exact⟨(_,_),by simp only [zd2,h1];rfl,h2⟩
 | mapSet kk x key v=>
  simp only [zks,zct] at h
  obtain⟨m',h1,h2⟩:=z4j h
  exact⟨(_,_),by simp only [zd2,h1];rfl,h2⟩
 | mapSetR kk x key v rs=>
  simp only [zks,zct,zy7] at h
  obtain⟨hc,h⟩:=h
  obtain⟨m',h1,h2⟩:=z4j h
  exact⟨(_,_),by simp only [zd2,if_pos hc,h1];rfl,h2⟩
 | callD f args=>
  simp only [zks,zct,zp4] at h
  simp only [zd2]
  split at h
  ·rename_i hf;rw [hf]
   obtain⟨hc,h⟩:=h
   obtain⟨p,h1,h2⟩:=z7l h
   exact⟨p,by simp only [hc,if_true];exact h1,h2⟩
  ·exact h.elim
 | nilEq kd neg x=>
  simp only [zks,zct] at h
  obtain⟨k,b,h1,hc,h2⟩:=yts h
  exact⟨(_,_),by simp only [zd2,h1];exact if_pos (Nat.eq_of_beq_eq_true hc),h2⟩
 | loadD n a=>
  simp only [zks,zct] at h
  simp only [zd2]
  split at h
  ·rename_i ha;rw [ha]
   obtain⟨v,h1,h2⟩:=zvh _ _ _ _ h
   exact⟨(_,_),by simp only [h1];rfl,h2⟩
  ·exact h.elim
 | idxAddrD sz x i=>
  simp only [zks,zct] at h
  simp only [zd2]
  split at h
  ·rename_i hx;rw [hx]
   split at h
   ·rename_i hi;rw [hi]
    exact⟨(_,_),if_pos h.need,h.go⟩
   ·exact h.elim
  ·exact h.elim
 | sliceZ sz x hi mx=>
  simp only [zks,zct] at h
  obtain⟨hc,h⟩:=h
  obtain⟨n,h1,h2⟩:=yjp _ _ _ _ h
  exact⟨(_,_),by simp only [zd2,hc,h1];rfl,h2⟩
 | appendIn r s x=>
  simp only [zks,zct] at h
  obtain⟨⟨k,ds⟩,h1,h2⟩:=z1l _ _ _ h
  simp only [zd2,zur,h1]
  split at h2
  ·rename_i hs;rw [hs]
   rw [zcy] at h2
   split at h2
   ·rename_i hl
    obtain⟨hc,h3⟩:=h2
    rw [zel] at h3
    exact⟨(_,_),by simp only [hl];exact if_pos hc,h3⟩
   ·exact h2.elim
  ·exact h2.elim
 | rangeS x=>
  simp only [zks,zct] at h
  simp only [zd2]
  split at h
  ·rename_i hx;rw [hx]
   simp only [zmx,zel] at h
   exact⟨(_,_),rfl,h⟩
  ·exact h.elim
 | nextS x=>
  simp only [zks,zct] at h
  simp only [zd2]
  split at h
  ·rename_i hx;rw [hx]
   rw [zcy] at h
   split at h
   ·rename_i s pos hl
    simp only [zel] at h
    simp only [yph,hl]
    by_cases hp:pos<s.length
    ·exact⟨(_,_),if_pos hp,h.yes hp⟩
    ·exact⟨(_,_),if_neg hp,h.no hp⟩
   ·exact h.elim
  ·exact h.elim
 | extract x i=>
  simp only [zks,zct] at h
  simp only [zd2]
  split at h
  ·rename_i hx;rw [hx]
   obtain⟨v,h1,h2⟩:=h.got
   exact⟨(_,_),by simp only [h1];rfl,h2⟩
  ·exact h.elim
 | call shared imm f args=>
  simp only [zks,zct,zp4] at h
  exact z7l h
 | storeR n a x rs=>
  simp only [zks,zct,zy7] at h
  obtain⟨hc,h⟩:=h
  obtain⟨v,h1,h2⟩:=z9m _ _ _ _ _ h
  exact⟨(_,_),by simp only [zd2,if_pos hc,h1];rfl,h2⟩
 | callR imm f args rs=>
  simp only [zks,zct,zp4,zy7] at h
  obtain⟨⟨v,m'⟩,h1,hc,h2⟩:=z7l h
  exact⟨(v,m'),by simp only [zd2,h1,if_pos hc],h2⟩
 | len k x=>
  simp only [zks,zct] at h
  obtain⟨v,h1,h2⟩:=yjp _ _ _ _ h
  exact⟨(_,_),by simp only [zd2,h1];rfl,h2⟩
 | append r s x=>
  simp only [zks,zct] at h
  obtain⟨⟨k,ds⟩,h1,h2⟩:=z1l _ _ _ h
  simp only [zd2,z15,h1]
  exact z2l _ _ _ _ _ _ _ _ h2
 | appendS r s x=>
  simp only [zks,zct] at h
  simp only [zd2]
  split at h
  ·rename_i hx hs;rw [hx,hs]
   simp only [zvl]
   exact z2l _ _ _ _ _ _ _ _ h
  ·exact h.elim
 | copy sz a b=>
  simp only [zks,zct] at h
  obtain⟨⟨k,ds⟩,h1,h2⟩:=z1l _ _ _ h
  simp only [zd2,yp8,h1]
  split at h2
  ·rename_i hx;rw [hx]
   rw [zcy] at h2
   split at h2
   ·rename_i hl;simp only [hl]
    rw [zel] at h2
    exact⟨(_,_),if_pos h2.need,h2.go⟩
   ·exact h2.elim
  ·exact h2.elim
 | minmax mx args=>
  simp only [zks,zp4] at h
  obtain⟨v,h1,h2⟩:=yhj _ _ _ h
  exact⟨(_,_),by simp only [zd2,h1];rfl,h2⟩
 | clear zero x=>
  simp only [zks,zct] at h
  obtain⟨v,h1,h2⟩:=h.got
  exact⟨(_,_),by simp only [zd2,h1];rfl,h2⟩
def ysk (E:Oracle) (cx:Cx) (e:Env) (m:Mem) (o:CO) (K:V->Mem->Prop):Prop:=
 match o with
 | ⟨dst,none,op⟩=>zks E cx (dst.getD 0) e m op K
 | ⟨dst,some (t,want),op⟩=>ypr e t fun g=>
  match g with
  | .d (.bool b)=>(match want with
   | true=>Br b (zks E cx (dst.getD 0) e m op K) (K .skip m)
   | false=>Br b (K .skip m) (zks E cx (dst.getD 0) e m op K))
  | .skip=>K .skip m
  | _=>False
theorem ypm {cx:Cx} {e:Env} {m:Mem} {o:CO} {K:V->Mem->Prop} (h:ysk E cx e m o K):∃p,zfc E cx e m o=some p/\K p.1 p.2:=by
 obtain⟨dst,guard,op⟩:=o
 cases guard with
 | none=>exact ycp h
 | some g=>
  obtain⟨t,want⟩:=g
  simp only [ysk,zr4] at h
  simp only [zfc]
  split at h
  ·rename_i b hb
   rw [hb]
   cases want<;>cases b
   ·exact ycp (h.no rfl)
   ·exact⟨(_,_),rfl,h.yes rfl⟩
   ·exact⟨(_,_),rfl,h.no rfl⟩
   ·exact ycp (h.yes rfl)
  ·rename_i hb;rw [hb];exact⟨(_,_),rfl,h⟩
  ·exact h.elim
def ypo (E:Oracle) (cx:Cx):List CO->Env->Mem->(Env->Mem->Prop)->Prop
 | [],e,m,K=>K e m
 | o::r,e,m,K=>ysk E cx e m o fun v m'=>put?K e o.dst v fun e'=>ypo E cx r e' m' K
theorem z7o {cx:Cx}:∀(os:List CO) (e:Env) (m:Mem) (K:Env->Mem->Prop),ypo E cx os e m K->∃p,zpv E cx os e m=some p/\K p.1 p.2
 | [],e,m,K,h=>⟨(e,m),rfl,h⟩
 | o::r,e,m,K,h=>by
  obtain⟨⟨v,m'⟩,h1,h2⟩:=ypm h
  rw [put?K_eq] at h2
  obtain⟨p,h3,h4⟩:=z7o r _ _ K h2
  exact⟨p,by simp only [zpv,h1];exact h3,h4⟩
def yyo (K1:Env->Mem->Prop) (K:Ex->Env->Mem->Prop) (x:Ex) (e:Env) (m:Mem):Prop:=
 match x with
 | .normal=>K1 e m
 | .exit i=>K (.exit i) e m
 | .ret=>K .ret e m
def yqr (id:Nat) (K:Ex->Env->Mem->Prop) (x:Ex) (e:Env) (m:Mem):Prop:=
 match x with
 | .normal=>K .normal e m
 | .exit j=>(match Nat.beq j id with
  | true=>K .normal e m
  | false=>K (.exit j) e m)
 | .ret=>K .ret e m
def yqt (cx:Cx) (i:Id) (e:Env) (K:Ex->Env->Mem->Prop) (m':Mem):Prop:=zkq m' i fun o=>
 match o with
 | some (.loop _ _ _ _ _ false _ j)=>z5i cx.nx m' fun mb=>
  (match yrm cx.nx (zhm mb) with
  | true=>zye mb i .gone fun m2=>
   (match j with
   | none=>K .normal e m2
   | some (.exit id)=>K (.exit id) e m2
   | some .ret=>K .ret e m2)
  | false=>False)
 | _=>False
def wpC (E:Oracle) (cx:Cx):C->Env->Mem->(Ex->Env->Mem->Prop)->Prop
 | .skip,e,m,K=>K .normal e m
 | .label,e,m,K=>K .normal e m
 | .reg _ ops kill,e,m,K=>ypo E cx ops e m fun e' m'=>zqo kill e' fun e''=>K .normal e'' m'
 | .regC ops kill chk,e,m,K=>ypo E cx ops e m fun e' m'=>Chk (yrz e' chk) (zqo kill e' fun e''=>K .normal e'' m')
 | .seq a b,e,m,K=>wpC E cx a e m (yyo (fun e' m'=>wpC E cx b e' m' K) K)
 | .cond c a b,e,m,K=>opK e c fun v=>
  match v with
  | .d (.bool t)=>Br t (wpC E cx a e m K) (wpC E cx b e m K)
  | _=>False
 | .block id c,e,m,K=>wpC E cx c e m (yqr id K)
 | .loop live c,e,m,K=>yi2 e live fun e'=>ycv m fun ks=>gcK ks e' m fun m'=>zad E cx live ks c e' m' K
 | .exit id,e,m,K=>K (.exit id) e m
 | .ret,e,m,K=>K .ret e m
 | .scope c,e,m,K=>wpC E cx c e m K
 | .rangeFn slot f ps a b,e,m,K=>yk0 cx slot m fun i=>zye m i (.loop e ps a b cx.lv false false none) fun m1=>ycv m1 fun ks=>
  match yrm cx.nx ks with
  | true=>opK e f fun fv=>
   (match fv with
   | .fn g first caps=>In E cx.nx g (first ++[.yld i]++caps) m1 fun _ m'=>yqt cx i e K m'
   | _=>False)
  | false=>False
theorem zrm {cx:Cx}:∀(c:C) (e:Env) (m:Mem) (K:Ex->Env->Mem->Prop),wpC E cx c e m K->∃x e' m',evC E cx c e m=some (x,e',m')/\K x e' m'
 | .skip,e,m,K,h=>⟨_,_,_,rfl,h⟩
 | .label,e,m,K,h=>⟨_,_,_,rfl,h⟩
 | .exit _,e,m,K,h=>⟨_,_,_,rfl,h⟩
 | .ret,e,m,K,h=>⟨_,_,_,rfl,h⟩
 | .scope c,e,m,K,h=>by
  obtain⟨x,e',m',h1,h2⟩:=zrm c e m K h
  exact⟨x,e',m',by simp only [evC];exact h1,h2⟩
 | .reg _ ops kill,e,m,K,h=>by
  obtain⟨p,h1,h2⟩:=z7o ops e m _ h
  rw [zns] at h2
  exact⟨_,_,_,by simp only [evC,h1];rfl,h2⟩
 | .regC ops kill chk,e,m,K,h=>by
  obtain⟨p,h1,hc,h2⟩:=z7o ops e m _ h
  rw [zns] at h2
  exact⟨_,_,_,by simp only [evC,h1,Option.bind_some];exact if_pos hc,h2⟩
 | .seq a b,e,m,K,h=>by
  obtain⟨x,e',m',h1,h2⟩:=zrm a e m _ h
  cases x with
  | normal=>
   obtain⟨x2,e2,m2,h3,h4⟩:=zrm b e' m' K h2
   exact⟨x2,e2,m2,by simp only [evC,h1];exact h3,h4⟩
  | _=>exact⟨_,_,_,by simp only [evC,h1],h2⟩
 | .cond c a b,e,m,K,h=>by
  simp only [wpC,zct] at h
  simp only [evC]
  split at h
  ·rename_i t ht
   rw [ht]
   cases t with
   | true=>
    obtain⟨x2,e2,m2,h3,h4⟩:=zrm a e m K (h.yes rfl)
    exact⟨x2,e2,m2,by simpa using h3,h4⟩
   | false=>
    obtain⟨x2,e2,m2,h3,h4⟩:=zrm b e m K (h.no rfl)
    exact⟨x2,e2,m2,by simpa using h3,h4⟩
  ·exact h.elim
 | .block id c,e,m,K,h=>by
  obtain⟨x,e',m',h1,h2⟩:=zrm c e m _ h
  cases x with
  | exit j=>
   simp only [yqr] at h2
   cases hb:Nat.beq j id with
   | true=>
    rw [hb] at h2
    exact⟨.normal,e',m',by simp only [evC,h1];exact if_pos (Nat.eq_of_beq_eq_true hb),h2⟩
   | false=>
    rw [hb] at h2
    have:j≠id:=fun hh=>by rw [hh,Nat.beq_refl] at hb;cases hb
    exact⟨.exit j,e',m',by simp only [evC,h1];exact if_neg this,h2⟩
  | _=>exact⟨_,_,_,by simp only [evC,h1],h2⟩
 | .loop live c,e,m,K,h=>by
  simp only [wpC,z7n,zto,ymz] at h
  obtain⟨x,e',m',h1,h2⟩:=h.got
  exact⟨x,e',m',by simp only [evC,h1],h2⟩
 | .rangeFn slot f ps a b,e,m,K,h=>by
  simp only [wpC,zmx,zel,zto,z0w,zct] at h
  simp only [evC]
  split at h
  ·rename_i hl
   rw [if_pos hl]
   split at h
   ·rename_i hf
    rw [hf]
    obtain⟨v,m',h1,h2⟩:=h.got
    simp only [h1]
    simp only [yqt,zcy,ztt,z0w,zel] at h2
    split at h2
    ·rename_i hlk
     simp only [hlk]
     split at h2
     ·rename_i hl2
      simp only [if_pos hl2]
      split at h2<;>exact⟨_,_,_,rfl,h2⟩
     ·exact h2.elim
    ·exact h2.elim
   ·exact h.elim
  ·exact h.elim
def yqo (m:Mem) (e:Env) (r:RV) (K:V->Prop):Prop:=
 match r with
 | .tmp t=>ypr e t K
 | .cell t n=>ypr e t fun a=>yoi n m a K
theorem ymt {m:Mem} {e:Env} {r:RV} {K:V->Prop} (h:yqo m e r K):∃v,yv2 m e r=some v/\K v:=by
 cases r with
 | tmp t=>simp only [yqo,zr4] at h;exact⟨_,rfl,h⟩
 | cell t n=>simp only [yqo,zr4] at h;exact yd2 _ _ _ _ h
def yq9 (m:Mem) (e:Env):List RV->(List V->Prop)->Prop
 | [],K=>K []
 | r::q,K=>yqo m e r fun v=>yq9 m e q fun vs=>K (v::vs)
theorem yee {m:Mem} {e:Env}:∀(l:List RV) (K:List V->Prop),yq9 m e l K->∃vs,z3q m e l=some vs/\K vs
 | [],K,h=>⟨[],rfl,h⟩
 | r::q,K,h=>by
  obtain⟨v,h1,h2⟩:=ymt h
  obtain⟨vs,h3,h4⟩:=yee q _ h2
  exact⟨v::vs,by simp only [z3q,h1,h3],h4⟩
def zd6 (m:Mem) (e:Env) (rs:List RV) (K:V->Prop):Prop:=
 match rs with
 | []=>K (.tup [])
 | [r]=>yqo m e r K
 | r::r2::rs=>yq9 m e (r::r2::rs) fun vs=>K (.tup vs)
theorem z0o {m:Mem} {e:Env} {rs:List RV} {K:V->Prop} (h:zd6 m e rs K):∃v,results m e rs=some v/\K v:=by
 unfold zd6 at h
 split at h
 ·exact⟨_,rfl,h⟩
 ·exact ymt h
 ·obtain⟨vs,h1,h2⟩:=yee _ _ h
  exact⟨_,by simp only [results,h1];rfl,h2⟩
def yxt (rs:List RV) (K:V->Mem->Prop) (x:Ex) (e:Env) (m:Mem):Prop:=
 match x with
 | .normal=>zd6 m e rs fun v=>K v m
 | .ret=>zd6 m e rs fun v=>K v m
 | .exit _=>False
def yw4:Nat->List V->(Env->Prop)->Prop
 | _,[],K=>K []
 | i,v::r,K=>yw4 (i+1) r fun e=>K ((i,v)::e)
theorem yjb:∀(i:Nat) (l:List V) (K:Env->Prop),yw4 i l K=K (params i l)
 | _,[],_=>rfl
 | i,v::r,K=>by simp only [yw4,params,yjb (i+1) r]
variable {Γ : Nat -> Option CF} {X : Extern}
def ypg (E:Oracle) (lv:Nat) (cf:CF) (args:List V) (m:Mem) (K:V->Mem->Prop):Prop:=yw4 0 args fun e=>wpC E ⟨lv,lv+1⟩ cf.body e m (yxt cf.results K)
theorem In.enter (hE:Lim Γ X E) {lv f:Nat} {args:List V} {m:Mem} {K:V->Mem->Prop} {cf:CF} (hX:X f=none) (hc:Γ f=some cf) (h:ypg E lv cf args m K):In E lv f args m K:=by
 simp only [ypg,yjb] at h
 obtain⟨x,e',m',h1,h2⟩:=zrm _ _ _ _ h
 refine⟨?_⟩
 rw [hE.fix]
 simp only [step,hX,hc,h1]
 cases x with
 | normal=>
  simp only [yxt] at h2
  obtain⟨v,h3,h4⟩:=z0o h2
  exact⟨v,m',by simp only [h3];rfl,h4⟩
 | ret=>
  simp only [yxt] at h2
  obtain⟨v,h3,h4⟩:=z0o h2
  exact⟨v,m',by simp only [h3];rfl,h4⟩
 | exit i=>exact h2.elim
theorem Fc.enter (hE:Lim Γ X E) {f:Nat} {args:List V} {r:V} {cf:CF} (hX:X f=none) (hc:Γ f=some cf) (h:ypg E 0 cf args [] fun v m'=>znm m' v fun d=>Ret d r):Fc E f args r:=by
 obtain⟨v,m',h1,h2⟩:=(In.enter hE hX hc h).got
 obtain⟨d,h3,h4⟩:=ye6 _ _ _ h2
 exact⟨v,m',h1,by rw [h3,h4.eq]⟩
theorem Fc.extern (hE:Lim Γ X E) {f:Nat} {args:List V} {r v:V} {m':Mem} {x:List V->Mem->Option (V×Mem)} (hX:X f=some x) (h:x args []=some (v,m')) (ht:ybb m' v=some r):Fc E f args r:=
 ⟨v,m',by rw [hE.fix];simp only [step,hX,h];rfl,ht⟩
theorem In.extern (hE:Lim Γ X E) {lv f:Nat} {args:List V} {m:Mem} {K:V->Mem->Prop} {v:V} {m':Mem} {x:List V->Mem->Option (V×Mem)} (hX:X f=some x) (h:x args m=some (v,m')) (hk:K v m'):In E lv f args m K:=
 ⟨v,m',by rw [hE.fix];simp only [step,hX,h];rfl,hk⟩
theorem zaf.of {f:Nat} {args:List V} {r:V} {K:V->Prop} (h:Fc E f args r) (hk:K r):zaf E f args K:=⟨r,h,hk⟩
theorem Fc.comp (hE:Lim Γ X E) (n:Nat) {f:Nat} {args:List V} {v r:V} {m':Mem} (h:iter Γ X n (.call 0 f args [])=some (.val v m')) (ht:ybb m' v=some r):Fc E f args r:=⟨v,m',hE.of_iter n _ _ h,ht⟩
def z2n (E:Oracle) (cx:Cx) (live:List Nat) (keep:List Id) (body:C) (K:Ex->Env->Mem->Prop) (x:Ex) (e:Env) (m:Mem):Prop:=
 match x with
 | .normal=>yi2 e live fun e2=>gcK keep e2 m fun m2=>zad E cx live keep body e2 m2 K
 | .exit i=>K (.exit i) e m
 | .ret=>K .ret e m
theorem zad.step (hE:Lim Γ X E) {cx:Cx} {live:List Nat} {keep:List Id} {body:C} {e:Env} {m:Mem} {K:Ex->Env->Mem->Prop} (h:wpC E cx body e m (z2n E cx live keep body K)):zad E cx live keep body e m K:=by
 obtain⟨x,e',m',h1,h2⟩:=zrm _ _ _ _ h
 refine⟨?_⟩
 rw [hE.fix]
 simp only [Go.Evl.step,h1]
 cases x with
 | normal=>
  simp only [z2n,z7n,ymz] at h2
  exact h2.got
 | exit i=>exact⟨_,_,_,rfl,h2⟩
 | ret=>exact⟨_,_,_,rfl,h2⟩
theorem zad.mono {cx:Cx} {live:List Nat} {keep:List Id} {body:C} {e:Env} {m:Mem} {K K':Ex->Env->Mem->Prop} (h:zad E cx live keep body e m K) (hk:∀x e m,K x e m->K' x e m):zad E cx live keep body e m K':=by
 obtain⟨x,e',m',h1,h2⟩:=h.got
 exact⟨x,e',m',h1,hk _ _ _ h2⟩
def yxg:List Nat->List V->Env->(Env->Prop)->Prop
 | t::r,v::s,e,K=>ywu e t v fun e'=>yxg r s e' K
 | [],_,e,K=>K e
 | _::_,[],e,K=>K e
theorem yml:∀(ps:List Nat) (vs:List V) (e:Env) (K:Env->Prop),yxg ps vs e K=K (ytt ps vs e)
 | [],[],e,K=>rfl
 | [],_::_,e,K=>rfl
 | _::_,[],e,K=>rfl
 | t::r,v::s,e,K=>by simp only [yxg,ytt,ybh,yml r s]
def yfy (o:Id) (ks:List Id) (K:V->Mem->Prop) (x:Ex) (_:Env) (m2:Mem):Prop:=zkq m2 o fun ob=>
 match ob with
 | some (.loop e' ps' a' b' lv' true false _)=>
  (match x with
  | .normal=>zye m2 o (.loop e' ps' a' b' lv' false false none) fun m3=>gcK ks [] m3 fun m4=>K (.d (.bool true)) m4
  | .exit id=>zye m2 o (.loop e' ps' a' b' lv' false true (some (.exit id))) fun m3=>K (.d (.bool false)) m3
  | .ret=>zye m2 o (.loop e' ps' a' b' lv' false true (some .ret)) fun m3=>K (.d (.bool false)) m3)
 | _=>False
def yf9 (E:Oracle) (nx:Nat) (o:Id) (lv:Nat) (b:C) (ks:List Id) (K:V->Mem->Prop) (x:Ex) (e1:Env) (m1:Mem):Prop:=
 match x with
 | .normal=>zkq m1 o fun ob=>
  (match ob with
  | some (.loop e' ps' a' b' lv' false false j')=>zye m1 o (.loop e' ps' a' b' lv' true false j') fun m2=>wpC E ⟨lv,nx⟩ b e1 m2 (yfy o ks K)
  | _=>False)
 | _=>False
def yqw (E:Oracle) (nx:Nat) (o:Id) (args:List V) (m:Mem) (K:V->Mem->Prop):Prop:=zkq m o fun ob=>
 match ob with
 | some (.loop e ps a b lv false false _)=>
  (match Nat.beq ps.length args.length with
  | true=>yxg ps args e fun e0=>ycv m fun ks=>wpC E ⟨lv,nx⟩ a e0 m (yf9 E nx o lv b ks K)
  | false=>False)
 | _=>False
theorem Rnd.enter (hE:Lim Γ X E) {nx:Nat} {o:Id} {args:List V} {m:Mem} {K:V->Mem->Prop} (h:yqw E nx o args m K):Rnd E nx o args m K:=by
 refine⟨?_⟩
 rw [hE.fix]
 simp only [yqw,zcy] at h
 simp only [Go.Evl.step]
 split at h
 ·rename_i hl
  simp only [hl]
  split at h
  ·rename_i hlen
   rw [if_pos (Nat.eq_of_beq_eq_true hlen)]
   simp only [yml,zto] at h
   obtain⟨x,e1,m1,h1,h2⟩:=zrm _ _ _ _ h
   simp only [h1]
   cases x with
   | normal=>
    simp only [yf9,zcy] at h2
    split at h2
    ·rename_i hl1
     simp only [hl1]
     rw [zel] at h2
     obtain⟨x,e2,m2,h3,h4⟩:=zrm _ _ _ _ h2
     simp only [h3]
     simp only [yfy,zcy] at h4
     split at h4
     ·rename_i hl2
      simp only [hl2]
      cases x with
      | normal=>
       simp only [zel,ymz] at h4
       exact⟨_,_,rfl,h4⟩
      | exit i=>
       simp only [zel] at h4
       exact⟨_,_,rfl,h4⟩
      | ret=>
       simp only [zel] at h4
       exact⟨_,_,rfl,h4⟩
     ·exact h4.elim
    ·exact h2.elim
   | exit i=>exact h2.elim
   | ret=>exact h2.elim
  ·exact h.elim
 ·exact h.elim
end
end Go.Evl
