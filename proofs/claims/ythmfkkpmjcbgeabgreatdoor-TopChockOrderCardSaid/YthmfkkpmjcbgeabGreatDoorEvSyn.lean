
/-
 The evaluator of Go functions on data: its values, its own small syntax, and its meaning (no World, no tape). Nothing here speaks of a program.
-/
import GoSem.Core.Code
import GoSem.Core.View
import GoSem.Core.Utf8
namespace Go.Evl
inductive D where
 | int (k:IntKind) (n:Int)
 | bool (b:Bool)
 | str (s:List UInt8)
 | nil
 | list (n:Nat) (cs:List D)
 | agg (cs:List D)
 | nilp
 | nilf
 | nili
 | ifc (b:Bool)
 | nilm
 | fn (f:Nat)
structure Id where
 lv:Nat
 slot:Nat
 k:Nat
 deriving DecidableEq
inductive V where
 | d (x:D)
 | agg (cs:List V)
 | tup (vs:List V)
 | ref (o:Id) (off len top:Nat)
 | ptr (o:Id) (off top:Nat)
 | lptr (cs:List D) (off:Nat)
 | fn (f:Nat) (first caps:List V)
 | yld (o:Id)
 | mp (o:Id)
 | it (o:Id)
 | skip
 | undef
inductive Opd where
 | t (n:Nat)
 | k (v:V)
structure zdt where
 wr:Bool
 t:Nat
 sz:Nat
 by_:Nat
inductive Kd where
 | str
 | slc
 | map
inductive KK where
 | int
 | str
 | bool
 deriving DecidableEq
inductive ygl where
 | z (x:D)
 | own (r:zdt)
inductive COp where
 | mv (x:Opd)
 | ownNil (r:zdt)
 | pick (c a b:Opd)
 | alloc (t:Nat) (cs:List ygl)
 | box (t:Nat) (x:Opd)
 | build (zero:List ygl) (parts:List (Nat×Nat×Opd))
 | mkList (sz n:Nat) (parts:List Opd)
 | mkRow (r:zdt) (n:Nat) (parts:List Opd)
 | load (n:Option Nat) (a:Opd)
 | store (n:Nat) (a x:Opd)
 | nilCheck (x:Opd)
 | bin (op:BinOp) (x y:Opd)
 | eqv (ks:Option (List KK)) (neg:Bool) (x y:Opd)
 | un (op:UnOp) (x:Opd)
 | conv (k:IntKind) (x:Opd)
 | mkFunc (f:Nat) (first caps:List Opd)
 | makeRow (r:zdt) (zero:List D) (n:Opd)
 | sliceS (x:Opd) (lo hi:Option Opd)
 | slice (sz:Nat) (x:Opd) (lo hi mx:Option Opd)
 | fieldAddr (off:Nat) (x:Opd)
 | field (off:Nat) (n:Option Nat) (x:Opd)
 | idxAddr (sz:Nat) (x i:Opd)
 | idxAddrA (len sz:Nat) (x i:Opd)
 | idxS (x i:Opd)
 | idxA (len sz:Nat) (n:Option Nat) (x i:Opd)
 | mkMap
 | lookup (kk:KK) (zero:D) (ok:Bool) (m key:Opd)
 | mapSet (kk:KK) (m key x:Opd)
 | rangeS (x:Opd)
 | nextS (x:Opd)
 | extract (x:Opd) (i:Nat)
 | call (shared:Bool) (imm:Bool) (f:Opd) (args:List Opd)
 | storeR (n:Nat) (a x:Opd) (rs:List Nat)
 | callR (imm:Bool) (f:Opd) (args:List Opd) (rs:List Nat)
 | mapSetR (kk:KK) (m key x:Opd) (rs:List Nat)
 | appendIn (r:zdt) (s x:Opd)
 | sliceZ (sz:Nat) (x hi mx:Opd)
 | loadD (n:Option Nat) (a:Opd)
 | nilEq (kd:Nat) (neg:Bool) (x:Opd)
 | callD (f:Opd) (args:List Opd)
 | idxAddrD (sz:Nat) (x i:Opd)
 | len (k:Kd) (x:Opd)
 | append (r:zdt) (s x:Opd)
 | appendS (r:zdt) (s x:Opd)
 | copy (sz:Nat) (dst src:Opd)
 | minmax (mx:Bool) (args:List Opd)
 | clear (zero:List D) (x:Opd)
structure CO where
 dst:Option Nat
 guard:Option (Nat×Bool)
 op:COp
abbrev kq (n:Int):Opd:= .k (.d (.int .i64 n))
abbrev tq (n:Nat) (op:COp):CO:=⟨some n,none,op⟩
abbrev ld (n a:Nat):CO:=⟨some n,none,.load none (.t a)⟩
abbrev fa (n off a:Nat):CO:=⟨some n,none,.fieldAddr off (.t a)⟩
abbrev mq (n m:Nat):CO:=⟨some n,none,.mv (.t m)⟩
abbrev xq (n m i:Nat):CO:=⟨some n,none,.extract (.t m) i⟩
abbrev lq (n k a:Nat):CO:=⟨some n,none,.load (some k) (.t a)⟩
abbrev gq (n g:Nat) (b:Bool) (op:COp):CO:=⟨some n,some (g,b),op⟩
abbrev cl (f:Nat) (args:List Opd):COp:= .call false true (.k (.fn f [] [])) args
inductive C where
 | skip
 | reg (draw:Bool) (ops:List CO) (kill:List Nat)
 | regC (ops:List CO) (kill:List Nat) (chk:List (Nat×Nat))
 | seq (a b:C)
 | cond (c:Opd) (a b:C)
 | block (id:Nat) (c:C)
 | loop (live:List Nat) (c:C)
 | rangeFn (slot:Nat) (f:Opd) (params:List Nat) (assign body:C)
 | exit (id:Nat)
 | scope (c:C)
 | label
 | ret
abbrev sr (ops:List CO) (kill:List Nat) (c:C):C:= .seq (.reg false ops kill) c
abbrev rg (ops:List CO) (kill:List Nat):C:= .reg false ops kill
inductive RV where
 | tmp (t:Nat)
 | cell (t:Nat) (n:Option Nat)
structure CF where
 results:List RV
 body:C
inductive Ex where
 | normal
 | exit (id:Nat)
 | ret
inductive ysj where
 | exit (id:Nat)
 | ret
abbrev Env:=List (Nat×V)
inductive Ob where
 | cells (t:Nat) (cs:List V)
 | row (wr:Bool) (t sz n:Nat) (xs:List D)
 | map (es:List (D×V))
 | iter (s:List UInt8) (pos:Nat)
 | loop (env:Env) (params:List Nat) (assign body:C) (lv:Nat) (busy:Bool) (over:Bool) (jump:Option ysj)
 | gone
abbrev Mem:=List (Id×Ob)
structure Cx where
 lv:Nat
 nx:Nat
def get:Env->Nat->V
 | [],_=> .undef
 | (u,v)::r,t=>if u=t then v else get r t
def put:Env->Nat->V->Env
 | [],t,v=>[(t,v)]
 | (u,x)::r,t,v=>if u=t then(t,v)::r else(u,x)::put r t v
def put? (e:Env) (t:Option Nat) (v:V):Env:=
 match t with
 | none=>e
 | some t=>put e t v
def look:Mem->Id->Option Ob
 | [],_=>none
 | (j,o)::r,i=>if j=i then some o else look r i
def upd:Mem->Id->Ob->Mem
 | [],i,o=>[(i,o)]
 | (j,x)::r,i,o=>if j=i then(i,o)::r else(j,x)::upd r i o
def keys (m:Mem):List Id:=m.map (·.1)
def Opd.ev (e:Env):Opd->V
 | .t n=>get e n
 | .k v=>v
def evs (e:Env):List Opd->List V
 | []=>[]
 | x::r=>x.ev e::evs e r
def freeK (lv slot:Nat):Mem->Nat
 | []=>0
 | (j,_)::r=>if j.lv=lv/\j.slot=slot then max (j.k+1) (freeK lv slot r) else freeK lv slot r
def zc8 (cx:Cx) (slot:Nat) (m:Mem):Id:=⟨cx.lv,slot,freeK cx.lv slot m⟩
mutual
def ids:V->List Id
 | .agg cs=>idsL cs
 | .tup vs=>idsL vs
 | .ref o _ _ _=>[o]
 | .ptr o _ _=>[o]
 | .fn _ a b=>idsL a++idsL b
 | .yld o=>[o]
 | .mp o=>[o]
 | .it o=>[o]
 | _=>[]
def idsL:List V->List Id
 | []=>[]
 | v::r=>ids v++idsL r
end
def yit:Env->List Id
 | []=>[]
 | (_,v)::r=>ids v++yit r
def yqg:List (D×V)->List Id
 | []=>[]
 | (_,v)::r=>ids v++yqg r
def idsO:Ob->List Id
 | .cells _ cs=>idsL cs
 | .map es=>yqg es
 | .loop e _ _ _ _ _ _ _=>yit e
 | _=>[]
def zhm:Mem->List Id
 | []=>[]
 | (_,o)::r=>idsO o++zhm r
def gc1 (keep:List Id) (e:Env) (m:Mem):Mem:=m.filter fun p=>keep.elem p.1||(yit e).elem p.1||(zhm m).elem p.1
def gc (keep:List Id) (e:Env) (m:Mem):Mem:=gc1 keep e (gc1 keep e (gc1 keep e m))
def only (live:List Nat) (e:Env):Env:=live.map fun t=>(t,get e t)
def zmu (kill:List Nat) (e:Env):Env:=e.filter fun p=> !kill.elem p.1
def zri:List V->Option (List D)
 | []=>some []
 | .d x::r=>(zri r).map (x::·)
 | _::_=>none
def ybp (cs:List V):V:=
 match zri cs with
 | some ds=> .d (.agg ds)
 | none=> .agg cs
def asV:List D->List V
 | []=>[]
 | x::r=> .d x::asV r
def cellsOf:V->Option (List V)
 | .d (.agg cs)=>some (asV cs)
 | .agg cs=>some cs
 | .tup _=>none
 | .skip=>none
 | .undef=>none
 | v=>some [v]
def win {α:Type} (cs:List α) (off n:Nat):List α:=(cs.drop off).take n
def patch {α:Type} (cs:List α) (off:Nat) (xs:List α):List α:=cs.take off++xs++cs.drop (off+xs.length)
def yat:V->V
 | .d (.fn f)=> .fn f [] []
 | v=>v
mutual
def freeze (any:Bool) (m:Mem):V->Option D
 | .d x=>some x
 | .agg cs=>(zen any m cs).map .agg
 | .fn f [] []=>some (.fn f)
 | .ref o off len top=>
  match look m o with
  | some (.row wr _ sz n xs)=>
   if(wr=false\/any=true)/\n=top/\off+len<=n then
    some (.list len (if off=0/\len=n then xs else win xs (off*sz) (len*sz)))
   else none
  | _=>none
 | _=>none
def zen (any:Bool) (m:Mem):List V->Option (List D)
 | []=>some []
 | v::r=>
  match freeze any m v,zen any m r with
  | some x,some xs=>some (x::xs)
  | _,_=>none
end
def zti (m:Mem) (v:V):Option (List D):=
 match freeze false m v with
 | some (.agg cs)=>some cs
 | some x=>some [x]
 | none=>none
def zxg (m:Mem) (v:V):Option (Nat×List D):=
 match v with
 | .d (.list n cs)=>some (n,cs)
 | .d .nil=>some (0,[])
 | .ref o off len top=>
  match look m o with
  | some (.row _ _ sz n xs)=>
   if n=top/\off+len<=n then some (len,if off=0/\len=n then xs else win xs (off*sz) (len*sz)) else none
  | _=>none
 | _=>none
def asI:V->Option Int
 | .d (.int _ n)=>some n
 | _=>none
mutual
def eqD:D->D->Option Bool
 | .int k a,.int l b=>if k=l then some (decide (a=b)) else none
 | .bool a,.bool b=>some (a==b)
 | .str a,.str b=>some (a==b)
 | .agg a,.agg b=>eqL a b
 | _,_=>none
def eqL:List D->List D->Option Bool
 | [],[]=>some true
 | x::r,y::s=>
  match eqD x y,eqL r s with
  | some a,some b=>some (a&&b)
  | _,_=>none
 | _,_=>none
end
def zkt:KK->D->Bool
 | .int,.int .. =>true
 | .str,.str _=>true
 | .bool,.bool _=>true
 | _,_=>false
def zc7:List KK->List D->Bool
 | [],[]=>true
 | k::r,d::q=>zkt k d&&zc7 r q
 | _,_=>false
def eqV (ks:Option (List KK)) (x y:V):Option Bool:=
 match ks with
 | none=>
  match x,y with
  | .d (.bool a),.d (.bool b)=>some (a==b)
  | _,_=>none
 | some ks=>
  match x,y with
  | .d (.agg a),.d (.agg b)=>if zc7 ks a&&zc7 ks b then eqL a b else none
  | _,_=>none
def zz1 (op:BinOp) (k:IntKind) (a b:Int):Option D:=
 match op with
 | .add=>some (.int k (k.wrap (a+b)))
 | .sub=>some (.int k (k.wrap (a-b)))
 | .mul=>some (.int k (k.wrap (a*b)))
 | .quo=>if b=0 then none else some (.int k (k.wrap (a.tdiv b)))
 | .rem=>if b=0 then none else some (.int k (a.tmod b))
 | .and=>some (.int k (k.wrap ((BitVec.ofInt k.bits a&&&BitVec.ofInt k.bits b).toNat)))
 | .or=>some (.int k (k.wrap ((BitVec.ofInt k.bits a|||BitVec.ofInt k.bits b).toNat)))
 | .xor=>some (.int k (k.wrap ((BitVec.ofInt k.bits a^^^BitVec.ofInt k.bits b).toNat)))
 | .andNot=>some (.int k (k.wrap ((BitVec.ofInt k.bits a&&&~~~ BitVec.ofInt k.bits b).toNat)))
 | .eql=>some (.bool (decide (a=b)))
 | .neq=>some (.bool (!decide (a=b)))
 | .lss=>some (.bool (decide (a<b)))
 | .leq=>some (.bool (decide (a<=b)))
 | .gtr=>some (.bool (decide (b<a)))
 | .geq=>some (.bool (decide (b<=a)))
 | _=>none
def zcp:List UInt8->List UInt8->Bool
 | _,[]=>false
 | [],_::_=>true
 | a::x,b::y=>a<b||(a==b&&zcp x y)
def zhb:Nat:=9223372036854775807
def z5n (op:BinOp) (a b:List UInt8):Option D:=
 match op with
 | .add=>if a.length+b.length<=zhb then some (.str (a++b)) else none
 | .eql=>some (.bool (a==b))
 | .neq=>some (.bool (!(a==b)))
 | .lss=>some (.bool (zcp a b))
 | .leq=>some (.bool (zcp a b||a==b))
 | .gtr=>some (.bool (!(zcp a b||a==b)))
 | .geq=>some (.bool (!zcp a b))
 | _=>none
def yvp (op:BinOp) (x y:V):Option D:=
 match x,y with
 | .d (.int k a),.d (.int l b)=>
  match op with
  | .shl=>if 0<=b then some (.int k (k.wrap (a*2^(min b.toNat k.bits)))) else none
  | .shr=>if 0<=b then some (.int k (a.fdiv (2^(min b.toNat k.bits)))) else none
  | _=>if k=l then zz1 op k a b else none
 | .d (.str a),.d (.str b)=>z5n op a b
 | _,_=>none
def unD (op:UnOp) (x:V):Option D:=
 match op,x with
 | .not,.d (.bool b)=>some (.bool (!b))
 | .neg,.d (.int k n)=>some (.int k (k.wrap (0-n)))
 | _,_=>none
def zn8 (mx:Bool):List V->Option D
 | []=>none
 | .d (.int k a)::r=>go k a r
 | _::_=>none
where
 go (k:IntKind) (a:Int):List V->Option D
  | []=>some (.int k a)
  | .d (.int _ b)::r=>go k (if mx then(if b>a then b else a) else(if b<a then b else a)) r
  | _::_=>none
def z9c (cs:List V):List (Nat×Nat×V)->Option (List V)
 | []=>some cs
 | (off,n,v)::r=>
  match cellsOf v with
  | some xs=>if xs.length=n/\off+n<=cs.length then z9c (patch cs off xs) r else none
  | none=>none
def zu6 (e:Env):List (Nat×Nat×Opd)->List (Nat×Nat×V)
 | []=>[]
 | (a,b,x)::r=>(a,b,x.ev e)::zu6 e r
def ztv (sz:Nat) (m:Mem):List V->Option (List D)
 | []=>some []
 | v::r=>
  match zti m v,ztv sz m r with
  | some x,some xs=>if x.length=sz then some (x++xs) else none
  | _,_=>none
def zbw (cx:Cx) (slot:Nat):List ygl->Mem->List V×Mem
 | [],m=>([],m)
 | .z x::r,m=>
  let p:=zbw cx slot r m
  (.d x::p.1,p.2)
 | .own s::r,m=>
  let i:=zc8 cx slot m
  let p:=zbw cx slot r (upd m i (.row s.wr s.t s.sz 0 []))
  (.ref i 0 0 0::p.1,p.2)
def ygw (n:Option Nat) (cs:List V) (off:Nat):Option V:=
 match n with
 | none=>cs[off]?
 | some n=>if off+n<=cs.length then some (ybp (win cs off n)) else none
def z34 (n:Option Nat) (cs:List D) (off:Nat):Option V:=
 match n with
 | none=>(cs[off]?).map .d
 | some n=>if off+n<=cs.length then some (.d (.agg (win cs off n))) else none
def z33 (n:Option Nat) (m:Mem) (a:V):Option V:=
 match a with
 | .lptr cs off=>z34 n cs off
 | .ptr o off top=>
  match look m o with
  | some (.cells _ cs)=>ygw n cs off
  | some (.row _ _ _ l xs)=>if l=top then z34 n xs off else none
  | _=>none
 | _=>none
def zvd (n:Nat) (m:Mem) (a x:V):Option Mem:=
 match a with
 | .ptr o off top=>
  match look m o with
  | some (.cells t cs)=>
   match cellsOf x with
   | some xs=>if xs.length=n/\off+n<=cs.length then some (upd m o (.cells t (patch cs off xs))) else none
   | none=>none
  | some (.row true t sz l xs)=>
   match zti m x with
   | some ds=>if ds.length=n/\off+n<=xs.length/\l=top then some (upd m o (.row true t sz l (patch xs off ds))) else none
   | none=>none
  | _=>none
 | _=>none
def zcn (n:Nat) (lo hi:Option V):Option (Nat×Nat):=
 let h:Option Int:=match hi with
  | none=>some n
  | some v=>asI v
 let l:Option Int:=match lo with
  | none=>some 0
  | some v=>asI v
 match h,l with
 | some h,some l=>if 0<=h/\h<=n/\0<=l/\l<=h then some (l.toNat,h.toNat) else none
 | _,_=>none
def zva (sz:Nat) (m:Mem) (x:V) (lo hi mx:Option V):Option V:=
 match x with
 | .d (.list n cs)=>
  match zcn n lo hi with
  | some (l,h)=>if mx.isNone\/(hi.isSome/\mx.bind asI=hi.bind asI) then some (.d (.list (h-l) (win cs (l*sz) ((h-l)*sz)))) else none
  | none=>none
 | .ref o off len top=>
  match look m o with
  | some (.row wr _ sz' n xs)=>
   if n=top/\off+len<=n/\sz'=sz then
    match zcn len lo hi with
    | some (l,h)=>
     if mx.isNone then
      if wr then some (.ref o (off+l) (h-l) top)
      else some (.d (.list (h-l) (win xs ((off+l)*sz) ((h-l)*sz))))
     else none
    | none=>none
   else none
  | _=>none
 | _=>none
def zk4 (sz:Nat) (m:Mem) (x i:V):Option V:=
 match asI i with
 | none=>none
 | some i=>
  match x with
  | .d (.list n cs)=>if 0<=i/\i<n then some (.lptr cs (i.toNat*sz)) else none
  | .ref o off len top=>
   match look m o with
   | some (.row _ _ sz' n _)=>if 0<=i/\i<len/\n=top/\off+len<=n/\sz'=sz then some (.ptr o ((off+i.toNat)*sz) top) else none
   | _=>none
  | _=>none
def z8m (m:Mem):V->Bool
 | .ptr o _ top=>
  match look m o with
  | some (.cells ..)=>true
  | some (.row _ _ _ n _)=>n==top
  | _=>false
 | .lptr _ _=>true
 | _=>false
def zf1 (off:Nat) (m:Mem) (v:V):Option V:=
 if z8m m v then
  match v with
  | .ptr o b top=>some (.ptr o (b+off) top)
  | .lptr cs b=>some (.lptr cs (b+off))
  | _=>none
 else none
def ydx (n:Option Nat) (x:V) (off:Nat):Option V:=
 match x with
 | .d (.agg cs)=>z34 n cs off
 | .agg cs=>ygw n cs off
 | _=>none
def ydp (m:Mem) (k:Kd) (v:V):Option Nat:=
 match k with
 | .str=>
  match v with
  | .d (.str s)=>some s.length
  | _=>none
 | .slc=>
  match v with
  | .d (.list n _)=>some n
  | .d .nil=>some 0
  | .ref o _ len top=>
   match look m o with
   | some (.row _ _ _ n _)=>if n=top then some len else none
   | _=>none
  | _=>none
 | .map=>
  match v with
  | .mp o=>
   match look m o with
   | some (.map es)=>some es.length
   | _=>none
  | _=>none
def z6e (n by_:Nat):Bool:=decide (n*by_<=140737488355328)&&decide (n<=140737488355328)
def zoi (cx:Cx) (slot:Nat) (r:zdt) (m:Mem) (kd:Option (Nat×List D)) (s:V):Option (V×Mem):=
 match kd with
 | none=>none
 | some (k,ds)=>
  match s with
  | .ref o off len top=>
   match look m o with
   | some (.row wr t sz n xs)=>
    if off=0/\len=n/\n=top/\t=r.t/\sz=r.sz/\ds.length=k*sz/\z6e (n+k) r.by_ then
     some (.ref o 0 (n+k) (n+k),upd m o (.row wr t sz (n+k) (xs++ds)))
    else none
   | _=>none
  | .d .nil=>
   if k≠0/\ds.length=k*r.sz/\z6e k r.by_ then
    let i:=zc8 cx slot m
    some (.ref i 0 k k,upd m i (.row r.wr r.t r.sz k ds))
   else none
  | _=>none
def z15 (cx:Cx) (slot:Nat) (r:zdt) (m:Mem) (s x:V):Option (V×Mem):=zoi cx slot r m (zxg m x) s
def zur (r:zdt) (m:Mem) (s x:V):Option (V×Mem):=
 match zxg m x,s with
 | some (k,ds),.ref o off len top=>
  match look m o with
  | some (.row true t sz n xs)=>
   if n=top/\off+len+k<n/\t=r.t/\sz=r.sz/\ds.length=k*sz then
    some (.ref o off (len+k) top,upd m o (.row true t sz n (patch xs ((off+len)*sz) ds)))
   else none
  | _=>none
 | _,_=>none
def yjt (m:Mem):V->Option (Nat×Bool)
 | .d .nilp=>some (0,true)
 | .d .nilf=>some (4,true)
 | .d .nili=>some (1,true)
 | .d (.ifc true)=>some (1,false)
 | .d .nilm=>some (3,true)
 | .d (.fn _)=>some (4,false)
 | .d (.list (_+1) _)=>some (2,false)
 | .fn .. =>some (4,false)
 | .lptr .. =>some (0,false)
 | .ptr o off top=>if z8m m (.ptr o off top) then some (0,false) else none
 | .ref o off len top=>
  match look m o with
  | some (.row _ _ _ n _)=>if n=top/\off+len<=n/\len≠0 then some (2,false) else none
  | _=>none
 | _=>none
def yu8:List V->Bool
 | []=>true
 | .d _::r=>yu8 r
 | _=>false
def z9p:V->Bool
 | .d (.int _ n)=>decide (n=0)
 | _=>false
def bytesD (b:List UInt8):List D:=b.map fun c=> .int .u8 c.toNat
def zvl (cx:Cx) (slot:Nat) (r:zdt) (m:Mem) (s x:V):Option (V×Mem):=
 match x,s with
 | .d (.str b),.ref .. =>zoi cx slot r m (some (b.length,bytesD b)) s
 | _,_=>none
def yp8 (sz:Nat) (m:Mem) (d s:V):Option (V×Mem):=
 match zxg m s,d with
 | some (k,ds),.ref o off len top=>
  match look m o with
  | some (.row true t sz' n xs)=>
   if n=top/\off+len<=n/\sz'=sz/\ds.length=k*sz then
    some (.d (.int .i64 (min k len:Nat)),upd m o (.row true t sz' n (patch xs (off*sz) (ds.take (min k len*sz)))))
   else none
  | _=>none
 | _,_=>none
def yfj (zero:List D) (m:Mem) (x:V):Option Mem:=
 match x with
 | .d (.list 0 _)=>some m
 | .ref o off len top=>
  match look m o with
  | some (.row true t sz n xs)=>
   if n=top/\off+len<=n/\zero.length=sz then
    some (upd m o (.row true t sz n (patch xs (off*sz) (List.replicate len zero).flatten)))
   else none
  | _=>none
 | _=>none
def zwt (key:D):List (D×V)->Option (Option V)
 | []=>some none
 | (q,v)::r=>
  match eqD key q with
  | some true=>some (some v)
  | some false=>zwt key r
  | none=>none
def yt6 (key:D) (x:V):List (D×V)->Option (List (D×V))
 | []=>some [(key,x)]
 | (q,v)::r=>
  match eqD key q with
  | some true=>some ((q,x)::r)
  | some false=>(yt6 key x r).map ((q,v)::·)
  | none=>none
def yo1 (zero:D) (ok:Bool):Option V->V
 | some v=>if ok then .tup [v,.d (.bool true)] else v
 | none=>if ok then .tup [.d zero,.d (.bool false)] else .d zero
def zps (kk:KK) (zero:D) (ok:Bool) (m:Mem) (x key:V):Option V:=
 match key with
 | .d key=>
  if zkt kk key then
   match x with
   | .mp o=>
    match look m o with
    | some (.map es)=>(zwt key es).map (yo1 zero ok)
    | _=>none
   | .d .nilm=>some (yo1 zero ok none)
   | _=>none
  else none
 | _=>none
def zog (kk:KK) (m:Mem) (x key v:V):Option Mem:=
 match x,key with
 | .mp o,.d key=>
  match look m o with
  | some (.map es)=>
   if zkt kk key&&(cellsOf v).isSome then(yt6 key v es).map fun es=>upd m o (.map es) else none
  | _=>none
 | _,_=>none
def yph (m:Mem):V->Option (V×Mem)
 | .it o=>
  match look m o with
  | some (.iter s pos)=>
   if pos<s.length then
    let p:=Utf8.decode ⟨s.toArray⟩ pos
    some (.tup [.d (.bool true),.d (.int .i64 pos),.d (.int .i32 p.1)],upd m o (.iter s (pos+p.2)))
   else some (.tup [.d (.bool false)],m)
  | _=>none
 | _=>none
def subst (σ:List (Id×Id)) (i:Id):Id:=
 match σ with
 | []=>i
 | (a,b)::r=>if a=i then b else subst r i
mutual
def ren (σ:List (Id×Id)):V->V
 | .agg cs=> .agg (renL σ cs)
 | .tup vs=> .tup (renL σ vs)
 | .ref o a b c=> .ref (subst σ o) a b c
 | .ptr o a b=> .ptr (subst σ o) a b
 | .fn f a b=> .fn f (renL σ a) (renL σ b)
 | .yld o=> .yld (subst σ o)
 | .mp o=> .mp (subst σ o)
 | .it o=> .it (subst σ o)
 | v=>v
def renL (σ:List (Id×Id)):List V->List V
 | []=>[]
 | v::r=>ren σ v::renL σ r
end
def yx0 (σ:List (Id×Id)):List (D×V)->List (D×V)
 | []=>[]
 | (a,v)::r=>(a,ren σ v)::yx0 σ r
def renO (σ:List (Id×Id)):Ob->Ob
 | .cells t cs=> .cells t (renL σ cs)
 | .map es=> .map (yx0 σ es)
 | o=>o
def reach (lv:Nat) (m:Mem):Nat->List Id->List Id->List Id
 | 0,_,done=>done
 | fuel+1,todo,done=>
  match todo with
  | []=>done
  | i::r=>
   if lv<=i.lv/\done.elem i=false then
    match look m i with
    | some o=>reach lv m fuel (idsO o++r) (done++[i])
    | none=>reach lv m fuel r done
   else reach lv m fuel r done
def number (cx:Cx) (slot k:Nat):List Id->List (Id×Id)
 | []=>[]
 | i::r=>(i,⟨cx.lv,slot,k⟩)::number cx slot (k+1) r
def moved (σ:List (Id×Id)) (m:Mem):List (Id×Id)->Mem
 | []=>[]
 | (a,b)::r=>
  match look m a with
  | some o=>(b,renO σ o)::moved σ m r
  | none=>moved σ m r
def isLoop:Ob->Bool
 | .loop .. =>true
 | _=>false
def onceB:List Id->Bool
 | []=>true
 | i::r=> !r.elem i&&onceB r
def within (is:List Id) (lo:Nat) (l:List Id):Bool:=l.all fun i=>is.elem i||decide (i.lv<lo)
def movable (is:List Id) (lo:Nat) (m:Mem):Bool:=
 onceB is&&is.all fun i=>
  match look m i with
  | some o=>within is lo (idsO o)&& !isLoop o&&decide (lo<=i.lv)
  | none=>false
def settle (cx:Cx) (slot lo:Nat) (old m:Mem) (v:V):Option (V×Mem):=
 let is:=reach lo m 64 (ids v) []
 let σ:=number cx slot (freeK cx.lv slot old) is
 if within is lo (ids v)&&movable is lo m then some (ren σ v,old++moved σ m σ) else none
def zgp (nx:Nat) (m:Mem):Mem:=m.filter fun p=>decide (p.1.lv<nx)
inductive Req where
 | call (lv:Nat) (f:Nat) (args:List V) (m:Mem)
 | round (nx:Nat) (o:Id) (args:List V) (m:Mem)
 | loop (cx:Cx) (live:List Nat) (keep:List Id) (body:C) (e:Env) (m:Mem)
inductive Res where
 | val (v:V) (m:Mem)
 | st (x:Ex) (e:Env) (m:Mem)
abbrev Oracle:=Req->Option Res
def zhh (F:Oracle) (cx:Cx) (f:V) (args:List V) (m:Mem):Option (V×Mem):=
 match f with
 | .fn f first caps=>
  match F (.call cx.nx f (first ++args++caps) m) with
  | some (.val v m')=>some (v,m')
  | _=>none
 | .yld o=>
  match F (.round cx.nx o args m) with
  | some (.val v m')=>some (v,m')
  | _=>none
 | _=>none
def ybb (m:Mem):V->Option V
 | .tup vs=>(zen true m vs).map fun xs=> .tup (asV xs)
 | v=>(freeze true m v).map .d
def zmj (nx:Nat) (l:List Id):Bool:=l.all fun i=>decide (i.lv<nx)
def zrb (cx:Cx) (slot lo:Nat) (imm:Bool) (old m:Mem) (v:V):Option (V×Mem):=
 if imm then
  if(ids v).all fun i=>decide (lo<=i.lv) then(ybb m v).map fun v=>(v,old) else none
 else settle cx slot lo old m v
def zpc (F:Oracle) (cx:Cx) (slot:Nat) (shared imm:Bool) (f:V) (args:List V) (m:Mem):Option (V×Mem):=
 if shared then
  if zmj cx.nx (keys m) then
   match zhh F cx f args m with
   | some (v,m')=>if zmj cx.nx (zhm (zgp cx.nx m')) then zrb cx slot cx.nx imm (zgp cx.nx m') m' v else none
   | none=>none
  else none
 else
  match f with
  | .fn f first caps=>
   match zen false m (first ++args++caps) with
   | some ds=>
    match F (.call 0 f (asV ds) []) with
    | some (.val v m')=>zrb cx slot 0 imm m m' v
    | _=>none
   | none=>none
  | _=>none
mutual
def zpe:D->D->Bool
 | .int k a,.int l b=>decide (k=l)&&decide (a=b)
 | .bool a,.bool b=>a==b
 | .str a,.str b=>a==b
 | .nil,.nil=>true
 | .list n a,.list m b=>n==m&&zxx a b
 | .agg a,.agg b=>zxx a b
 | .nilp,.nilp=>true
 | .nilf,.nilf=>true
 | .nili,.nili=>true
 | .ifc a,.ifc b=>a==b
 | .nilm,.nilm=>true
 | .fn a,.fn b=>a==b
 | _,_=>false
def zxx:List D->List D->Bool
 | [],[]=>true
 | x::r,y::q=>zpe x y&&zxx r q
 | _,_=>false
end
mutual
theorem z65:∀(a b:D),zpe a b=true->a=b
 | .int k a,b,h=>by cases b<;>simp [zpe] at h;obtain⟨rfl,rfl⟩:=h;rfl
 | .bool a,b,h=>by cases b<;>simp [zpe] at h;subst h;rfl
 | .str a,b,h=>by cases b<;>simp [zpe] at h;subst h;rfl
 | .nil,b,h=>by cases b<;>simp [zpe] at h;rfl
 | .list n a,b,h=>by
  cases b<;>simp [zpe] at h
  obtain⟨rfl,h⟩:=h
  rw [zqa a _ h]
 | .agg a,b,h=>by
  cases b<;>simp [zpe] at h
  rw [zqa a _ h]
 | .nilp,b,h=>by cases b<;>simp [zpe] at h;rfl
 | .nilf,b,h=>by cases b<;>simp [zpe] at h;rfl
 | .nili,b,h=>by cases b<;>simp [zpe] at h;rfl
 | .ifc a,b,h=>by cases b<;>simp [zpe] at h;subst h;rfl
 | .nilm,b,h=>by cases b<;>simp [zpe] at h;rfl
 | .fn a,b,h=>by cases b<;>simp [zpe] at h;subst h;rfl
theorem zqa:∀(a b:List D),zxx a b=true->a=b
 | [],b,h=>by cases b<;>simp [zxx] at h;rfl
 | x::r,b,h=>by
  cases b<;>simp [zxx] at h
  rw [z65 x _ h.1,zqa r _ h.2]
end
theorem yl1:∀(as1 bs:List V) (xs:List D),zri as1=some xs->zri bs=some xs->as1=bs
 | [],bs,xs,h,k=>by
  simp only [zri,Option.some.injEq] at h
  subst h
  cases bs with
  | nil=>rfl
  | cons b r=>cases b<;>simp [zri] at k
 | a::r,bs,xs,h,k=>by
  cases a with
  | d x=>
   simp only [zri,Option.map_eq_some_iff] at h
   obtain⟨ys,h1,rfl⟩:=h
   cases bs with
   | nil=>simp [zri] at k
   | cons b q=>
    cases b with
    | d y=>
     simp only [zri,Option.map_eq_some_iff,List.cons.injEq] at k
     obtain⟨zs,k1,rfl,rfl⟩:=k
     rw [yl1 r q _ h1 k1]
    | _=>simp [zri] at k
  | _=>simp [zri] at h
def yfs:V->List V->Bool
 | .ptr o _ _,vs=>vs.all fun v=>
  match v with
  | .ptr o' _ _=> !decide (o'=o)
  | _=>false
 | _,_=>false
def yfd:V->List V->Bool
 | .mp o,vs=>vs.all fun v=>
  match v with
  | .ptr o' _ _=> !decide (o'=o)
  | _=>false
 | _,_=>false
def yp1:V->V->Bool
 | .d a,.d b=>zpe a b
 | .ref o a b c,.ref o' a' b' c'=>decide (o=o')&&decide (a=a')&&decide (b=b')&&decide (c=c')
 | .ptr o a b,.ptr o' a' b'=>decide (o=o')&&decide (a=a')&&decide (b=b')
 | _,_=>false
theorem yn0 (a b:V) (h:yp1 a b=true):a=b:=by
 unfold yp1 at h
 split at h
 ·rw [z65 _ _ h]
 ·simp only [Bool.and_eq_true,decide_eq_true_eq] at h
  obtain⟨⟨⟨rfl,rfl⟩,rfl⟩,rfl⟩:=h
  rfl
 ·simp only [Bool.and_eq_true,decide_eq_true_eq] at h
  obtain⟨⟨rfl,rfl⟩,rfl⟩:=h
  rfl
 ·cases h
def z5v:List V->List V->Bool
 | [],[]=>true
 | x::r,y::q=>yp1 x y&&z5v r q
 | _,_=>false
theorem z8l:∀(a b:List V),z5v a b=true->a=b
 | [],b,h=>by cases b<;>simp [z5v] at h;rfl
 | x::r,b,h=>by
  cases b<;>simp [z5v] at h
  rw [yn0 x _ h.1,z8l r _ h.2]
def yrh:Option Ob->Option Ob->Bool
 | some (.cells t cs),some (.cells u ds)=>decide (t=u)&&z5v cs ds
 | _,_=>false
def yao (m m':Mem):List V->Bool
 | []=>true
 | .ptr o _ _::r=>yrh (look m o) (look m' o)&&yao m m' r
 | _::_=>false
def zd2 (F:Oracle) (cx:Cx) (slot:Nat) (e:Env) (m:Mem):COp->Option (V×Mem)
 | .mv x=>some (x.ev e,m)
 | .ownNil r=>
  let i:=zc8 cx slot m
  some (.ref i 0 0 0,upd m i (.row r.wr r.t r.sz 0 []))
 | .pick c a b=>
  match c.ev e with
  | .d (.bool t)=>some (if t then a.ev e else b.ev e,m)
  | _=>none
 | .alloc t cs=>
  let p:=zbw cx slot cs m
  let i:=zc8 cx slot p.2
  some (.ptr i 0 0,upd p.2 i (.cells t p.1))
 | .box t x=>
  match cellsOf (x.ev e) with
  | some cs=>
   let i:=zc8 cx slot m
   some (.ptr i 0 0,upd m i (.cells t cs))
  | none=>none
 | .build zero parts=>
  let p:=zbw cx slot zero m
  (z9c p.1 (zu6 e parts)).map fun cs=>(ybp cs,p.2)
 | .mkList sz n parts=>(ztv sz m (evs e parts)).map fun ds=>(.d (.list n ds),m)
 | .mkRow r n parts=>
  (ztv r.sz m (evs e parts)).map fun ds=>
   let i:=zc8 cx slot m
   (.ref i 0 n n,upd m i (.row r.wr r.t r.sz n ds))
 | .load n a=>(z33 n m (a.ev e)).map fun v=>(v,m)
 | .store n a x=>(zvd n m (a.ev e) (x.ev e)).map fun m=>(.skip,m)
 | .nilCheck x=>
  if z8m m (x.ev e) then some (x.ev e,m)
  else
   match yat (x.ev e) with
   | .fn f a b=>some (.fn f a b,m)
   | _=>none
 | .bin op x y=>(yvp op (x.ev e) (y.ev e)).map fun v=>(.d v,m)
 | .eqv ks neg x y=>(eqV ks (x.ev e) (y.ev e)).map fun r=>(.d (.bool (if neg then !r else r)),m)
 | .un op x=>(unD op (x.ev e)).map fun v=>(.d v,m)
 | .conv k x=>
  match x.ev e with
  | .d (.int _ n)=>some (.d (.int k (k.wrap n)),m)
  | _=>none
 | .mkFunc f first caps=>some (.fn f (evs e first) (evs e caps),m)
 | .makeRow r zero n=>
  match n.ev e with
  | .d (.int _ n)=>
   if 0<=n/\zero.length=r.sz/\z6e n.toNat r.by_ then
    let i:=zc8 cx slot m
    some (.ref i 0 n.toNat n.toNat,upd m i (.row r.wr r.t r.sz n.toNat (List.replicate n.toNat zero).flatten))
   else none
  | _=>none
 | .sliceS x lo hi=>
  match x.ev e with
  | .d (.str s)=>
   match zcn s.length (lo.map (·.ev e)) (hi.map (·.ev e)) with
   | some (l,h)=>some (.d (.str (win s l (h-l))),m)
   | none=>none
  | _=>none
 | .slice sz x lo hi mx=>(zva sz m (x.ev e) (lo.map (·.ev e)) (hi.map (·.ev e)) (mx.map (·.ev e))).map fun v=>(v,m)
 | .fieldAddr off x=>(zf1 off m (x.ev e)).map fun v=>(v,m)
 | .field off n x=>(ydx n (x.ev e) off).map fun v=>(v,m)
 | .idxAddr sz x i=>(zk4 sz m (x.ev e) (i.ev e)).map fun v=>(v,m)
 | .idxAddrA len sz x i=>
  match asI (i.ev e) with
  | some i=>if 0<=i/\i<len then(zf1 (i.toNat*sz) m (x.ev e)).map fun v=>(v,m) else none
  | none=>none
 | .idxS x i=>
  match x.ev e,asI (i.ev e) with
  | .d (.str s),some i=>if 0<=i then(s[i.toNat]?).map fun b=>(.d (.int .u8 b.toNat),m) else none
  | _,_=>none
 | .idxA len sz n x i=>
  match asI (i.ev e) with
  | some i=>if 0<=i/\i<len then(ydx n (x.ev e) (i.toNat*sz)).map fun v=>(v,m) else none
  | none=>none
 | .mkMap=>
  let i:=zc8 cx slot m
  some (.mp i,upd m i (.map []))
 | .lookup kk zero ok x key=>(zps kk zero ok m (x.ev e) (key.ev e)).map fun v=>(v,m)
 | .mapSet kk x key v=>(zog kk m (x.ev e) (key.ev e) (v.ev e)).map fun m=>(.skip,m)
 | .rangeS x=>
  match x.ev e with
  | .d (.str s)=>
   let i:=zc8 cx slot m
   some (.it i,upd m i (.iter s 0))
  | _=>none
 | .nextS x=>yph m (x.ev e)
 | .extract x i=>
  match x.ev e with
  | .tup vs=>(vs[i]?).map fun v=>(v,m)
  | _=>none
 | .call shared imm f args=>zpc F cx slot shared imm (yat (f.ev e)) (evs e args) m
 | .storeR n a x rs=>if yfs (a.ev e) (rs.map (get e))=true then(zvd n m (a.ev e) (x.ev e)).map fun m=>(.skip,m) else none
 | .callR imm f args rs=>
  match zpc F cx slot true imm (yat (f.ev e)) (evs e args) m with
  | some (v,m')=>if yao m m' (rs.map (get e))=true then some (v,m') else none
  | none=>none
 | .mapSetR kk x key v rs=>if yfd (x.ev e) (rs.map (get e))=true then(zog kk m (x.ev e) (key.ev e) (v.ev e)).map fun m=>(.skip,m) else none
 | .appendIn r s x=>zur r m (s.ev e) (x.ev e)
 | .callD f args=>
  match yat (f.ev e) with
  | .fn g [] []=>if yu8 (evs e args) then zpc F cx slot false true (.fn g [] []) (evs e args) m else none
  | _=>none
 | .nilEq kd neg x=>
  match yjt m (x.ev e) with
  | some (k,b)=>if k=kd then some (.d (.bool (if neg then !b else b)),m) else none
  | none=>none
 | .loadD n a=>
  match a.ev e with
  | .lptr cs off=>(z34 n cs off).map fun v=>(v,m)
  | _=>none
 | .idxAddrD sz x i=>
  match x.ev e,asI (i.ev e) with
  | .d (.list n cs),some i=>if 0<=i/\i<n then some (.lptr cs (i.toNat*sz),m) else none
  | _,_=>none
 | .sliceZ _ x hi mx=>if z9p (hi.ev e)&&z9p (mx.ev e) then(ydp m .slc (x.ev e)).map fun _=>(.d .nil,m) else none
 | .len k x=>(ydp m k (x.ev e)).map fun(n:Nat)=>(V.d (.int .i64 (n:Int)),m)
 | .append r s x=>z15 cx slot r m (s.ev e) (x.ev e)
 | .appendS r s x=>zvl cx slot r m (s.ev e) (x.ev e)
 | .copy sz a b=>yp8 sz m (a.ev e) (b.ev e)
 | .minmax mx args=>(zn8 mx (evs e args)).map fun v=>(.d v,m)
 | .clear zero x=>(yfj zero m (x.ev e)).map fun m=>(.skip,m)
def zfc (F:Oracle) (cx:Cx) (e:Env) (m:Mem) (o:CO):Option (V×Mem):=
 match o.guard with
 | none=>zd2 F cx (o.dst.getD 0) e m o.op
 | some (t,want)=>
  match get e t with
  | .d (.bool b)=>if b=want then zd2 F cx (o.dst.getD 0) e m o.op else some (.skip,m)
  | .skip=>some (.skip,m)
  | _=>none
def zpv (F:Oracle) (cx:Cx):List CO->Env->Mem->Option (Env×Mem)
 | [],e,m=>some (e,m)
 | o::r,e,m=>
  match zfc F cx e m o with
  | some (v,m')=>zpv F cx r (put? e o.dst v) m'
  | none=>none
def yrz (e:Env):List (Nat×Nat)->Bool
 | []=>true
 | (a,b)::r=>((ids (get e a)).all fun i=> !(ids (get e b)).elem i)&&yrz e r
def ysj.ex:ysj->Ex
 | .exit id=> .exit id
 | .ret=> .ret
def evC (F:Oracle) (cx:Cx):C->Env->Mem->Option (Ex×Env×Mem)
 | .skip,e,m=>some (.normal,e,m)
 | .label,e,m=>some (.normal,e,m)
 | .reg _ ops kill,e,m=>(zpv F cx ops e m).map fun p=>(.normal,zmu kill p.1,p.2)
 | .regC ops kill chk,e,m=>(zpv F cx ops e m).bind fun p=>if yrz p.1 chk then some (.normal,zmu kill p.1,p.2) else none
 | .seq a b,e,m=>
  match evC F cx a e m with
  | some (.normal,e',m')=>evC F cx b e' m'
  | r=>r
 | .cond c a b,e,m=>
  match c.ev e with
  | .d (.bool t)=>if t then evC F cx a e m else evC F cx b e m
  | _=>none
 | .block id c,e,m=>
  match evC F cx c e m with
  | some (.exit j,e',m')=>if j=id then some (.normal,e',m') else some (.exit j,e',m')
  | r=>r
 | .loop live c,e,m=>
  match F (.loop cx live (keys m) c (only live e) (gc (keys m) (only live e) m)) with
  | some (.st x e' m')=>some (x,e',m')
  | _=>none
 | .exit id,e,m=>some (.exit id,e,m)
 | .ret,e,m=>some (.ret,e,m)
 | .scope c,e,m=>evC F cx c e m
 | .rangeFn slot f ps a b,e,m=>
  let i:=zc8 cx slot m
  let m1:=upd m i (.loop e ps a b cx.lv false false none)
  if zmj cx.nx (keys m1) then
   match f.ev e with
   | .fn g first caps=>
    match F (.call cx.nx g (first ++[.yld i]++caps) m1) with
    | some (.val _ m')=>
     match look m' i with
     | some (.loop _ _ _ _ _ false _ j)=>
      if zmj cx.nx (zhm (zgp cx.nx m')) then
       let m2:=upd (zgp cx.nx m') i .gone
       match j with
       | none=>some (.normal,e,m2)
       | some j=>some (j.ex,e,m2)
      else none
     | _=>none
    | _=>none
   | _=>none
  else none
def ytt:List Nat->List V->Env->Env
 | t::r,v::s,e=>ytt r s (put e t v)
 | _,_,e=>e
def params (i:Nat):List V->Env
 | []=>[]
 | v::r=>(i,v)::params (i+1) r
def yv2 (m:Mem) (e:Env):RV->Option V
 | .tmp t=>some (get e t)
 | .cell t n=>z33 n m (get e t)
def z3q (m:Mem) (e:Env):List RV->Option (List V)
 | []=>some []
 | x::r=>
  match yv2 m e x,z3q m e r with
  | some v,some vs=>some (v::vs)
  | _,_=>none
def results (m:Mem) (e:Env) (rs:List RV):Option V:=
 match rs with
 | [r]=>yv2 m e r
 | rs=>(z3q m e rs).map .tup
abbrev Extern:=Nat->Option (List V->Mem->Option (V×Mem))
def step (Γ:Nat->Option CF) (X:Extern) (F:Oracle):Req->Option Res
 | .call lv f args m=>
  match X f with
  | some x=>(x args m).map fun p=> .val p.1 p.2
  | none=>
   match Γ f with
   | some cf=>
    match evC F ⟨lv,lv+1⟩ cf.body (params 0 args) m with
    | some (.normal,e,m')=>(results m' e cf.results).map fun v=> .val v m'
    | some (.ret,e,m')=>(results m' e cf.results).map fun v=> .val v m'
    | _=>none
   | none=>none
 | .round nx o args m=>
  match look m o with
  | some (.loop e ps a b lv false false _)=>
   if ps.length=args.length then
    match evC F ⟨lv,nx⟩ a (ytt ps args e) m with
    | some (.normal,e1,m1)=>
     match look m1 o with
     | some (.loop e' ps' a' b' lv' false false j')=>
      match evC F ⟨lv,nx⟩ b e1 (upd m1 o (.loop e' ps' a' b' lv' true false j')) with
      | some (x,_,m2)=>
       match look m2 o with
       | some (.loop e' ps' a' b' lv' true false _)=>
        match x with
        | .normal=>some (.val (.d (.bool true)) (gc (keys m) [] (upd m2 o (.loop e' ps' a' b' lv' false false none))))
        | .exit id=>some (.val (.d (.bool false)) (upd m2 o (.loop e' ps' a' b' lv' false true (some (.exit id)))))
        | .ret=>some (.val (.d (.bool false)) (upd m2 o (.loop e' ps' a' b' lv' false true (some .ret))))
       | _=>none
      | none=>none
     | _=>none
    | _=>none
   else none
  | _=>none
 | .loop cx live keep body e m=>
  match evC F cx body e m with
  | some (.normal,e',m')=>F (.loop cx live keep body (only live e') (gc keep (only live e') m'))
  | some (x,e',m')=>some (.st x e' m')
  | none=>none
abbrev Globs:=List (Nat×List D)
def findC {α:Type} (f:Nat):List (Nat×α)->Option α
 | []=>none
 | (i,c)::r=>match Nat.beq i f with
  | true=>some c
  | false=>findC f r
theorem findC_mem {α:Type} (f:Nat) (c:α):∀l:List (Nat×α),findC f l=some c->(f,c)∈l
 | [],h=>by simp [findC] at h
 | (i,d)::r,h=>by
  simp only [findC] at h
  split at h
  ·rename_i e
   obtain rfl:=Option.some.inj h
   rw [Nat.eq_of_beq_eq_true e];simp
  ·exact List.mem_cons_of_mem _ (findC_mem f c r h)
def iter (Γ:Nat->Option CF) (X:Extern):Nat->Oracle
 | 0=>fun _=>none
 | n+1=>step Γ X (iter Γ X n)
end Go.Evl
