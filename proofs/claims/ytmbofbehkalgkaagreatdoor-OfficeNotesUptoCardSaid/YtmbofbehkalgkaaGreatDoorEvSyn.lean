
/-
 The evaluator of Go functions on data: its values, its own yh8 syntax, and its meaning (no World, no tape). Nothing here speaks of a program.
-/
import GoSem.Core.Code
import GoSem.Core.View
import GoSem.Core.Utf8
namespace Go.Evl
inductive D where
 | int (k:IntKind) (n:Int)
 | bool (b:Bool)
 | str (s:List UInt8)
 | nil
 | list (n:Nat) (cs:List D)
 | agg (cs:List D)
 | nilp
 | nilf
 | nili
 | ifc (b:Bool)
 | nilm
 | fn (f:Nat)
structure Id where
 lv:Nat
 slot:Nat
 k:Nat
 deriving DecidableEq
inductive V where
 | d (x:D)
 | agg (cs:List V)
 | tup (vs:List V)
 | ref (o:Id) (off len top:Nat)
 | ptr (o:Id) (off top:Nat)
 | lptr (cs:List D) (off:Nat)
 | cl (n:Nat) (cs:List D)
 | fn (f:Nat) (first caps:List V)
 | yld (o:Id)
 | mp (o:Id)
 | it (o:Id)
 | skip
 | undef
inductive Opd where
 | t (n:Nat)
 | k (v:V)
structure zca where
 wr:Bool
 t:Nat
 sz:Nat
 by_:Nat
inductive Kd where
 | str
 | slc
 | map
 | cap
inductive KK where
 | int
 | str
 | bool
 | rc (l:List Bool)
 deriving DecidableEq
inductive z57 where
 | z (x:D)
 | own (r:zca)
inductive COp where
 | mv (x:Opd)
 | ownNil (r:zca)
 | pick (c a b:Opd)
 | alloc (t:Nat) (cs:List z57)
 | box (t:Nat) (x:Opd)
 | build (zero:List z57) (parts:List (Nat×Nat×Opd))
 | mkList (sz n:Nat) (parts:List Opd)
 | mkListD (sz n:Nat) (parts:List Opd)
 | mkRow (r:zca) (n:Nat) (parts:List Opd)
 | load (n:Option Nat) (a:Opd)
 | store (n:Nat) (a x:Opd)
 | nilCheck (x:Opd)
 | bin (op:BinOp) (x y:Opd)
 | eqv (ks:Option (List KK)) (neg:Bool) (x y:Opd)
 | un (op:UnOp) (x:Opd)
 | conv (k:IntKind) (x:Opd)
 | mkFunc (f:Nat) (first caps:List Opd)
 | makeRow (r:zca) (zero:List D) (n:Opd)
 | sliceS (x:Opd) (lo hi:Option Opd)
 | slice (sz:Nat) (x:Opd) (lo hi mx:Option Opd)
 | fieldAddr (off:Nat) (x:Opd)
 | field (off:Nat) (n:Option Nat) (x:Opd)
 | idxAddr (sz:Nat) (x i:Opd)
 | idxAddrA (len sz:Nat) (x i:Opd)
 | idxS (x i:Opd)
 | mkMap
 | lookup (kk:KK) (zero:D) (ok:Bool) (m key:Opd)
 | mapSet (kk:KK) (m key x:Opd)
 | rangeS (x:Opd)
 | nextS (x:Opd)
 | extract (x:Opd) (i:Nat)
 | call (shared:Bool) (imm:Bool) (f:Opd) (args:List Opd)
 | storeR (n:Nat) (a x:Opd) (rs:List Nat)
 | callR (imm:Bool) (f:Opd) (args:List Opd) (rs:List Nat)
 | callB (imm:Bool) (f:Opd) (args:List Opd) (b:Nat)
 | bad
 | mapSetR (kk:KK) (m key x:Opd) (rs:List Nat)
 | appendIn (r:zca) (s x:Opd)
 | appendZ (r:zca) (zero:List D) (s n:Opd)
 | loadD (n:Option Nat) (a:Opd)
 | nilEq (kd:Nat) (neg:Bool) (x:Opd)
 | callD (f:Opd) (args:List Opd)
 | callN (f:Opd) (args:List Opd)
 | callK (imm:Bool) (f:Opd) (args:List Opd)
 | callQ (f:Opd) (args:List Opd)
 | callU (imm:Bool) (f:Opd) (args:List Opd)
 | idxAddrD (sz:Nat) (x i:Opd)
 | fieldAddrD (off:Nat) (x:Opd)
 | sealMv (x:Opd)
 | sliceC (sz:Nat) (x hi mx:Opd)
 | len (k:Kd) (x:Opd)
 | append (r:zca) (s x:Opd)
 | appendS (r:zca) (s x:Opd)
 | appendF (r:zca) (s x:Opd)
 | strB (x:Opd)
 | minmax (mx:Bool) (args:List Opd)
structure CO where
 dst:Option Nat
 guard:Option (Nat×Bool)
 op:COp
abbrev kq (n:Int):Opd:= .k (.d (.int .i64 n))
abbrev tq (n:Nat) (op:COp):CO:=⟨some n,none,op⟩
abbrev ld (n a:Nat):CO:=⟨some n,none,.load none (.t a)⟩
abbrev fa (n off a:Nat):CO:=⟨some n,none,.fieldAddr off (.t a)⟩
abbrev mq (n m:Nat):CO:=⟨some n,none,.mv (.t m)⟩
abbrev xq (n m i:Nat):CO:=⟨some n,none,.extract (.t m) i⟩
abbrev lq (n k a:Nat):CO:=⟨some n,none,.load (some k) (.t a)⟩
abbrev gq (n g:Nat) (b:Bool) (op:COp):CO:=⟨some n,some (g,b),op⟩
abbrev cl (f:Nat) (args:List Opd):COp:= .call false true (.k (.fn f [] [])) args
inductive C where
 | skip
 | reg (draw:Bool) (ops:List CO) (kill:List Nat)
 | regC (ops:List CO) (kill:List Nat) (chk:List (Nat×Nat))
 | seq (a b:C)
 | cond (c:Opd) (a b:C)
 | block (id:Nat) (c:C)
 | loop (live:List Nat) (c:C)
 | rangeFn (slot:Nat) (f:Opd) (params:List Nat) (assign body:C)
 | rangeM (pre:List CO) (it:Nat) (x:Opd) (out nxt pair:Nat) (live:List Nat) (ops:List CO) (kill:List Nat) (code:C)
 | exit (id:Nat)
 | scope (c:C)
 | fz (t:Nat) (c:C)
 | label
 | ret
 | bad
abbrev sr (ops:List CO) (kill:List Nat) (c:C):C:= .seq (.reg false ops kill) c
abbrev rg (ops:List CO) (kill:List Nat):C:= .reg false ops kill
inductive RV where
 | tmp (t:Nat)
 | cell (t:Nat) (n:Option Nat)
structure CF where
 results:List RV
 body:C
inductive Ex where
 | normal
 | exit (id:Nat)
 | ret
inductive yct where
 | exit (id:Nat)
 | ret
abbrev Env:=List (Nat×V)
inductive Ob where
 | cells (t:Nat) (cs:List V)
 | row (wr:Bool) (t sz n:Nat) (xs:List D)
 | bag (t sz n:Nat) (xs:List D)
 | map (es:List (D×V))
 | iter (s:List UInt8) (pos:Nat)
 | loop (env:Env) (params:List Nat) (assign body:C) (lv:Nat) (busy:Bool) (over:Bool) (jump:Option yct)
 | gone
abbrev Mem:=List (Id×Ob)
structure Cx where
 lv:Nat
 nx:Nat
def get:Env->Nat->V
 | [],_=> .undef
 | (u,v)::r,t=>if u=t then v else get r t
def put:Env->Nat->V->Env
 | [],t,v=>[(t,v)]
 | (u,x)::r,t,v=>if u=t then(t,v)::r else(u,x)::put r t v
def put? (e:Env) (t:Option Nat) (v:V):Env:=
 match t with
 | none=>e
 | some t=>put e t v
def look:Mem->Id->Option Ob
 | [],_=>none
 | (j,o)::r,i=>if j=i then some o else look r i
def upd:Mem->Id->Ob->Mem
 | [],i,o=>[(i,o)]
 | (j,x)::r,i,o=>if j=i then(i,o)::r else(j,x)::upd r i o
def zhi (m:Mem):List Id:=m.map (·.1)
def Opd.ev (e:Env):Opd->V
 | .t n=>get e n
 | .k v=>v
def evs (e:Env):List Opd->List V
 | []=>[]
 | x::r=>x.ev e::evs e r
def freeK (lv slot:Nat):Mem->Nat
 | []=>0
 | (j,_)::r=>if j.lv=lv/\j.slot=slot then max (j.k+1) (freeK lv slot r) else freeK lv slot r
def newId (cx:Cx) (slot:Nat) (m:Mem):Id:=⟨cx.lv,slot,freeK cx.lv slot m⟩
mutual
def ids:V->List Id
 | .agg cs=>idsL cs
 | .tup vs=>idsL vs
 | .ref o _ _ _=>[o]
 | .ptr o _ _=>[o]
 | .fn _ a b=>idsL a++idsL b
 | .yld o=>[o]
 | .mp o=>[o]
 | .it o=>[o]
 | _=>[]
def idsL:List V->List Id
 | []=>[]
 | v::r=>ids v++idsL r
end
def idsE:Env->List Id
 | []=>[]
 | (_,v)::r=>ids v++idsE r
def idsM:List (D×V)->List Id
 | []=>[]
 | (_,v)::r=>ids v++idsM r
def idsO:Ob->List Id
 | .cells _ cs=>idsL cs
 | .map es=>idsM es
 | .loop e _ _ _ _ _ _ _=>idsE e
 | _=>[]
def idsAll:Mem->List Id
 | []=>[]
 | (_,o)::r=>idsO o++idsAll r
def gc1 (keep:List Id) (e:Env) (m:Mem):Mem:=m.filter fun p=>keep.elem p.1||(idsE e).elem p.1||(idsAll m).elem p.1
def gc (keep:List Id) (e:Env) (m:Mem):Mem:=gc1 keep e (gc1 keep e (gc1 keep e m))
def only (live:List Nat) (e:Env):Env:=live.map fun t=>(t,get e t)
def zbs (kill:List Nat) (e:Env):Env:=e.filter fun p=> !kill.elem p.1
def zo0:List V->Option (List D)
 | []=>some []
 | .d x::r=>(zo0 r).map (x::·)
 | _::_=>none
def z7b (cs:List V):V:=
 match zo0 cs with
 | some ds=> .d (.agg ds)
 | none=> .agg cs
def asV:List D->List V
 | []=>[]
 | x::r=> .d x::asV r
def cellsOf:V->Option (List V)
 | .d (.agg cs)=>some (asV cs)
 | .agg cs=>some cs
 | .tup _=>none
 | .skip=>none
 | .undef=>none
 | v=>some [v]
def win {α:Type} (cs:List α) (off n:Nat):List α:=(cs.drop off).take n
def patch {α:Type} (cs:List α) (off:Nat) (xs:List α):List α:=cs.take off++xs++cs.drop (off+xs.length)
def znc:V->V
 | .d (.fn f)=> .fn f [] []
 | v=>v
mutual
def freeze (any:Bool) (m:Mem):V->Option D
 | .d x=>some x
 | .cl n cs=>some (.list n cs)
 | .agg cs=>(zdf any m cs).map .agg
 | .fn f [] []=>some (.fn f)
 | .ref o off len top=>
  match look m o with
  | some (.row wr _ sz n xs)=>
   if(wr=false\/any=true)/\n=top/\off+len<=n then
    some (.list len (if off=0/\len=n then xs else win xs (off*sz) (len*sz)))
   else none
  | _=>none
 | _=>none
def zdf (any:Bool) (m:Mem):List V->Option (List D)
 | []=>some []
 | v::r=>
  match freeze any m v,zdf any m r with
  | some x,some xs=>some (x::xs)
  | _,_=>none
end
def zmw (m:Mem) (v:V):Option (List D):=
 match freeze false m v with
 | some (.agg cs)=>some cs
 | some x=>some [x]
 | none=>none
def zwo (m:Mem) (v:V):Option (Nat×List D):=
 match v with
 | .d (.list n cs)=>some (n,cs)
 | .d .nil=>some (0,[])
 | .ref o off len top=>
  match look m o with
  | some (.row _ _ sz n xs)=>
   if n=top/\off+len<=n then some (len,if off=0/\len=n then xs else win xs (off*sz) (len*sz)) else none
  | _=>none
 | _=>none
def asI:V->Option Int
 | .d (.int _ n)=>some n
 | _=>none
mutual
def eqD:D->D->Option Bool
 | .int k a,.int l b=>if k=l then some (decide (a=b)) else none
 | .bool a,.bool b=>some (a==b)
 | .str a,.str b=>some (a==b)
 | .agg a,.agg b=>eqL a b
 | _,_=>none
def eqL:List D->List D->Option Bool
 | [],[]=>some true
 | x::r,y::s=>
  match eqD x y,eqL r s with
  | some a,some b=>some (a&&b)
  | _,_=>none
 | _,_=>none
end
def zl8:List Bool->List D->Bool
 | [],[]=>true
 | true::l,.str _::r=>zl8 l r
 | false::l,.int .. ::r=>zl8 l r
 | _,_=>false
def zfv:KK->D->Bool
 | .int,.int .. =>true
 | .str,.str _=>true
 | .bool,.bool _=>true
 | .rc l,.agg cs=>zl8 l cs
 | _,_=>false
def zb0:List KK->List D->Bool
 | [],[]=>true
 | k::r,d::q=>zfv k d&&zb0 r q
 | _,_=>false
def eqV (ks:Option (List KK)) (x y:V):Option Bool:=
 match ks with
 | none=>
  match x,y with
  | .d (.bool a),.d (.bool b)=>some (a==b)
  | _,_=>none
 | some ks=>
  match x,y with
  | .d (.agg a),.d (.agg b)=>if zb0 ks a&&zb0 ks b then eqL a b else none
  | _,_=>none
def zv0 (op:BinOp) (k:IntKind) (a b:Int):Option D:=
 match op with
 | .add=>some (.int k (k.wrap (a+b)))
 | .sub=>some (.int k (k.wrap (a-b)))
 | .mul=>some (.int k (k.wrap (a*b)))
 | .quo=>if b=0 then none else some (.int k (k.wrap (a.tdiv b)))
 | .rem=>if b=0 then none else some (.int k (a.tmod b))
 | .and=>some (.int k (k.wrap ((BitVec.ofInt k.bits a&&&BitVec.ofInt k.bits b).toNat)))
 | .or=>some (.int k (k.wrap ((BitVec.ofInt k.bits a|||BitVec.ofInt k.bits b).toNat)))
 | .xor=>some (.int k (k.wrap ((BitVec.ofInt k.bits a^^^BitVec.ofInt k.bits b).toNat)))
 | .andNot=>some (.int k (k.wrap ((BitVec.ofInt k.bits a&&&~~~ BitVec.ofInt k.bits b).toNat)))
 | .eql=>some (.bool (decide (a=b)))
 | .neq=>some (.bool (!decide (a=b)))
 | .lss=>some (.bool (decide (a<b)))
 | .leq=>some (.bool (decide (a<=b)))
 | .gtr=>some (.bool (decide (b<a)))
 | .geq=>some (.bool (decide (b<=a)))
 | _=>none
def zag:List UInt8->List UInt8->Bool
 | _,[]=>false
 | [],_::_=>true
 | a::x,b::y=>a<b||(a==b&&zag x y)
def z90:Nat:=9223372036854775807
def zy3 (op:BinOp) (a b:List UInt8):Option D:=
 match op with
 | .add=>if a.length+b.length<=z90 then some (.str (a++b)) else none
 | .eql=>some (.bool (a==b))
 | .neq=>some (.bool (!(a==b)))
 | .lss=>some (.bool (zag a b))
 | .leq=>some (.bool (zag a b||a==b))
 | .gtr=>some (.bool (!(zag a b||a==b)))
 | .geq=>some (.bool (!zag a b))
 | _=>none
def ylg (op:BinOp) (x y:V):Option D:=
 match x,y with
 | .d (.int k a),.d (.int l b)=>
  match op with
  | .shl=>if 0<=b then some (.int k (k.wrap (a*2^(min b.toNat k.bits)))) else none
  | .shr=>if 0<=b then some (.int k (a.fdiv (2^(min b.toNat k.bits)))) else none
  | _=>if k=l then zv0 op k a b else none
 | .d (.str a),.d (.str b)=>zy3 op a b
 | _,_=>none
def unD (op:UnOp) (x:V):Option D:=
 match op,x with
 | .not,.d (.bool b)=>some (.bool (!b))
 | .neg,.d (.int k n)=>some (.int k (k.wrap (0-n)))
 | _,_=>none
def zmi (mx:Bool):List V->Option D
 | []=>none
 | .d (.int k a)::r=>go k a r
 | _::_=>none
where
 go (k:IntKind) (a:Int):List V->Option D
  | []=>some (.int k a)
  | .d (.int _ b)::r=>go k (if mx then(if b>a then b else a) else(if b<a then b else a)) r
  | _::_=>none
def z3x (cs:List V):List (Nat×Nat×V)->Option (List V)
 | []=>some cs
 | (off,n,v)::r=>
  match cellsOf v with
  | some xs=>if xs.length=n/\off+n<=cs.length then z3x (patch cs off xs) r else none
  | none=>none
def zry (e:Env):List (Nat×Nat×Opd)->List (Nat×Nat×V)
 | []=>[]
 | (a,b,x)::r=>(a,b,x.ev e)::zry e r
def zm9 (sz:Nat) (m:Mem):List V->Option (List D)
 | []=>some []
 | v::r=>
  match zmw m v,zm9 sz m r with
  | some x,some xs=>if x.length=sz then some (x++xs) else none
  | _,_=>none
@[irreducible] def yo3 (n:Nat) (d:D):List z57:=List.replicate n (.z d)
def zbd (cx:Cx) (slot:Nat):List z57->Mem->List V×Mem
 | [],m=>([],m)
 | .z x::r,m=>
  let p:=zbd cx slot r m
  (.d x::p.1,p.2)
 | .own s::r,m=>
  let i:=newId cx slot m
  let p:=zbd cx slot r (upd m i (.row s.wr s.t s.sz 0 []))
  (.ref i 0 0 0::p.1,p.2)
def ybu (n:Option Nat) (cs:List V) (off:Nat):Option V:=
 match n with
 | none=>cs[off]?
 | some n=>if off+n<=cs.length then some (z7b (win cs off n)) else none
def zyq (n:Option Nat) (cs:List D) (off:Nat):Option V:=
 match n with
 | none=>(cs[off]?).map .d
 | some n=>if off+n<=cs.length then some (.d (.agg (win cs off n))) else none
def zxb (n:Option Nat) (m:Mem) (a:V):Option V:=
 match a with
 | .lptr cs off=>zyq n cs off
 | .ptr o off top=>
  match look m o with
  | some (.cells _ cs)=>ybu n cs off
  | some (.row _ _ _ l xs)=>if l=top then zyq n xs off else none
  | _=>none
 | _=>none
def zse (n:Nat) (m:Mem) (a x:V):Option Mem:=
 match a with
 | .ptr o off top=>
  match look m o with
  | some (.cells t cs)=>
   match cellsOf x with
   | some xs=>if xs.length=n/\off+n<=cs.length then some (upd m o (.cells t (patch cs off xs))) else none
   | none=>none
  | some (.row true t sz l xs)=>
   match zmw m x with
   | some ds=>if ds.length=n/\off+n<=xs.length/\l=top then some (upd m o (.row true t sz l (patch xs off ds))) else none
   | none=>none
  | _=>none
 | _=>none
def zb3 (n:Nat) (lo hi:Option V):Option (Nat×Nat):=
 let h:Option Int:=match hi with
  | none=>some n
  | some v=>asI v
 let l:Option Int:=match lo with
  | none=>some 0
  | some v=>asI v
 match h,l with
 | some h,some l=>if 0<=h/\h<=n/\0<=l/\l<=h then some (l.toNat,h.toNat) else none
 | _,_=>none
def zpo (sz:Nat) (m:Mem) (x:V) (lo hi mx:Option V):Option V:=
 match x with
 | .d (.list n cs)=>
  match zb3 n lo hi with
  | some (l,h)=>if mx.isNone\/(hi.isSome/\mx.bind asI=hi.bind asI) then some (.d (.list (h-l) (win cs (l*sz) ((h-l)*sz)))) else none
  | none=>none
 | .d .nil=>
  match zb3 0 lo hi with
  | some _=>if mx.isNone then some (.d .nil) else none
  | none=>none
 | .ref o off len top=>
  match look m o with
  | some (.row wr _ sz' n xs)=>
   if n=top/\off+len<=n/\sz'=sz then
    match zb3 len lo hi with
    | some (l,h)=>
     if mx.isNone then
      if wr then some (.ref o (off+l) (h-l) top)
      else some (.d (.list (h-l) (win xs ((off+l)*sz) ((h-l)*sz))))
     else none
    | none=>none
   else none
  | _=>none
 | _=>none
def zjm (sz:Nat) (m:Mem) (x i:V):Option V:=
 match asI i with
 | none=>none
 | some i=>
  match x with
  | .d (.list n cs)=>if 0<=i/\i<n then some (.lptr cs (i.toNat*sz)) else none
  | .ref o off len top=>
   match look m o with
   | some (.row _ _ sz' n _)=>if 0<=i/\i<len/\n=top/\off+len<=n/\sz'=sz then some (.ptr o ((off+i.toNat)*sz) top) else none
   | _=>none
  | _=>none
def z2r (m:Mem):V->Bool
 | .ptr o _ top=>
  match look m o with
  | some (.cells ..)=>true
  | some (.row _ _ _ n _)=>n==top
  | _=>false
 | .lptr _ _=>true
 | _=>false
def yfl (m:Mem) (v:V):Mem:=
 match v with
 | .ref o _ _ _=>
  match look m o with
  | some (.row true t sz n xs)=>upd m o (.row false t sz n xs)
  | _=>m
 | _=>m
def zer (off:Nat) (m:Mem) (v:V):Option V:=
 if z2r m v then
  match v with
  | .ptr o b top=>some (.ptr o (b+off) top)
  | .lptr cs b=>some (.lptr cs (b+off))
  | _=>none
 else none
def yew (n:Option Nat) (x:V) (off:Nat):Option V:=
 match x with
 | .d (.agg cs)=>zyq n cs off
 | .agg cs=>ybu n cs off
 | _=>none
def ycs (m:Mem) (k:Kd) (v:V):Option Nat:=
 match k with
 | .str=>
  match v with
  | .d (.str s)=>some s.length
  | _=>none
 | .slc=>
  match v with
  | .d (.list n _)=>some n
  | .d .nil=>some 0
  | .cl n _=>some n
  | .ref o _ len top=>
   match look m o with
   | some (.row _ _ _ n _)=>if n=top then some len else none
   | _=>none
  | _=>none
 | .map=>
  match v with
  | .mp o=>
   match look m o with
   | some (.map es)=>some es.length
   | _=>none
  | _=>none
 | .cap=>
  match v with
  | .d .nil=>some 0
  | _=>none
def zr5 (n by_:Nat):Bool:=decide (n*by_<=140737488355328)&&decide (n<=140737488355328)
def zk2 (cx:Cx) (slot:Nat) (r:zca) (m:Mem) (kd:Option (Nat×List D)) (s:V):Option (V×Mem):=
 match kd with
 | none=>none
 | some (k,ds)=>
  match s with
  | .ref o off len top=>
   match look m o with
   | some (.row wr t sz n xs)=>
    if off=0/\len=n/\n=top/\t=r.t/\sz=r.sz/\ds.length=k*sz/\zr5 (n+k) r.by_ then
     some (.ref o 0 (n+k) (n+k),upd m o (.row wr t sz (n+k) (xs++ds)))
    else none
   | _=>none
  | .d .nil=>
   if k≠0/\ds.length=k*r.sz/\zr5 k r.by_ then
    let i:=newId cx slot m
    some (.ref i 0 k k,upd m i (.row r.wr r.t r.sz k ds))
   else none
  | .cl n cs=>
   if k≠0/\ds.length=k*r.sz/\cs.length=n*r.sz/\zr5 (n+k) r.by_ then
    let i:=newId cx slot m
    some (.ref i 0 (n+k) (n+k),upd m i (.row r.wr r.t r.sz (n+k) (cs++ds)))
   else none
  | _=>none
def zpr (cx:Cx) (slot:Nat) (r:zca) (m:Mem) (s x:V):Option (V×Mem):=zk2 cx slot r m (zwo m x) s
def zqu (r:zca) (m:Mem) (s x:V):Option (V×Mem):=
 match zwo m x,s with
 | some (k,ds),.ref o off len top=>
  match look m o with
  | some (.row true t sz n xs)=>
   if n=top/\off+len+k<=n/\off+len<n/\t=r.t/\sz=r.sz/\ds.length=k*sz then
    some (.ref o off (len+k) top,upd m o (.row true t sz n (patch xs ((off+len)*sz) ds)))
   else none
  | _=>none
 | _,_=>none
def yeh (m:Mem):V->Option (Nat×Bool)
 | .d .nilp=>some (0,true)
 | .d .nilf=>some (4,true)
 | .d .nili=>some (1,true)
 | .d (.ifc true)=>some (1,false)
 | .d .nilm=>some (3,true)
 | .d (.fn _)=>some (4,false)
 | .d (.list (_+1) _)=>some (2,false)
 | .fn .. =>some (4,false)
 | .lptr .. =>some (0,false)
 | .ptr o off top=>if z2r m (.ptr o off top) then some (0,false) else none
 | .ref o off len top=>
  match look m o with
  | some (.row _ _ _ n _)=>if n=top/\off+len<=n/\len≠0 then some (2,false) else none
  | _=>none
 | _=>none
def yd2:List V->Bool
 | []=>true
 | .d _::r=>yd2 r
 | _=>false
def z8x (b:List UInt8):List D:=b.map fun c=> .int .u8 c.toNat
def zqw (cx:Cx) (slot:Nat) (r:zca) (m:Mem) (s x:V):Option (V×Mem):=
 match x,s with
 | .d (.str b),.ref .. =>zk2 cx slot r m (some (b.length,z8x b)) s
 | _,_=>none
def zfu (key:D):List (D×V)->Option (Option V)
 | []=>some none
 | (q,v)::r=>
  match eqD key q with
  | some true=>some (some v)
  | some false=>zfu key r
  | none=>none
def zmu (key:D) (x:V):List (D×V)->Option (List (D×V))
 | []=>some [(key,x)]
 | (q,v)::r=>
  match eqD key q with
  | some true=>some ((q,x)::r)
  | some false=>(zmu key x r).map ((q,v)::·)
  | none=>none
def yiy (zero:D) (ok:Bool):Option V->V
 | some v=>if ok then .tup [v,.d (.bool true)] else v
 | none=>if ok then .tup [.d zero,.d (.bool false)] else .d zero
def zk9 (kk:KK) (zero:D) (ok:Bool) (m:Mem) (x key:V):Option V:=
 match key with
 | .d key=>
  if zfv kk key then
   match x with
   | .mp o=>
    match look m o with
    | some (.map es)=>(zfu key es).map (yiy zero ok)
    | _=>none
   | .d .nilm=>some (yiy zero ok none)
   | _=>none
  else none
 | _=>none
def zf3 (kk:KK) (m:Mem) (x key v:V):Option Mem:=
 match x,key with
 | .mp o,.d key=>
  match look m o with
  | some (.map es)=>
   if zfv kk key&&(cellsOf v).isSome then(zmu key v es).map fun es=>upd m o (.map es) else none
  | _=>none
 | _,_=>none
def yhh (m:Mem):V->Option (V×Mem)
 | .it o=>
  match look m o with
  | some (.iter s pos)=>
   if pos<s.length then
    let p:=Utf8.decode ⟨s.toArray⟩ pos
    some (.tup [.d (.bool true),.d (.int .i64 pos),.d (.int .i32 p.1)],upd m o (.iter s (pos+p.2)))
   else some (.tup [.d (.bool false)],m)
  | _=>none
 | _=>none
def subst (σ:List (Id×Id)) (i:Id):Id:=
 match σ with
 | []=>i
 | (a,b)::r=>if a=i then b else subst r i
mutual
def ren (σ:List (Id×Id)):V->V
 | .agg cs=> .agg (renL σ cs)
 | .tup vs=> .tup (renL σ vs)
 | .ref o a b c=> .ref (subst σ o) a b c
 | .ptr o a b=> .ptr (subst σ o) a b
 | .fn f a b=> .fn f (renL σ a) (renL σ b)
 | .yld o=> .yld (subst σ o)
 | .mp o=> .mp (subst σ o)
 | .it o=> .it (subst σ o)
 | v=>v
def renL (σ:List (Id×Id)):List V->List V
 | []=>[]
 | v::r=>ren σ v::renL σ r
end
def renM (σ:List (Id×Id)):List (D×V)->List (D×V)
 | []=>[]
 | (a,v)::r=>(a,ren σ v)::renM σ r
def renO (σ:List (Id×Id)):Ob->Ob
 | .cells t cs=> .cells t (renL σ cs)
 | .map es=> .map (renM σ es)
 | o=>o
def reach (lv:Nat) (m:Mem):Nat->List Id->List Id->List Id
 | 0,_,done=>done
 | fuel+1,todo,done=>
  match todo with
  | []=>done
  | i::r=>
   if lv<=i.lv/\done.elem i=false then
    match look m i with
    | some o=>reach lv m fuel (idsO o++r) (done++[i])
    | none=>reach lv m fuel r done
   else reach lv m fuel r done
def number (cx:Cx) (slot k:Nat):List Id->List (Id×Id)
 | []=>[]
 | i::r=>(i,⟨cx.lv,slot,k⟩)::number cx slot (k+1) r
def moved (σ:List (Id×Id)) (m:Mem):List (Id×Id)->Mem
 | []=>[]
 | (a,b)::r=>
  match look m a with
  | some o=>(b,renO σ o)::moved σ m r
  | none=>moved σ m r
def isLoop:Ob->Bool
 | .loop .. =>true
 | _=>false
def onceB:List Id->Bool
 | []=>true
 | i::r=> !r.elem i&&onceB r
def within (is:List Id) (lo:Nat) (l:List Id):Bool:=l.all fun i=>is.elem i||decide (i.lv<lo)
def movable (is:List Id) (lo:Nat) (m:Mem):Bool:=
 onceB is&&is.all fun i=>
  match look m i with
  | some o=>within is lo (idsO o)&& !isLoop o&&decide (lo<=i.lv)
  | none=>false
def settle (cx:Cx) (slot lo:Nat) (old m:Mem) (v:V):Option (V×Mem):=
 let is:=reach lo m 64 (ids v) []
 let σ:=number cx slot (freeK cx.lv slot old) is
 if within is lo (ids v)&&movable is lo m then some (ren σ v,old++moved σ m σ) else none
def zdr (nx:Nat) (m:Mem):Mem:=m.filter fun p=>decide (p.1.lv<nx)
inductive Req where
 | call (lv:Nat) (f:Nat) (args:List V) (m:Mem)
 | round (nx:Nat) (o:Id) (args:List V) (m:Mem)
 | loop (cx:Cx) (live:List Nat) (keep:List Id) (body:C) (e:Env) (m:Mem)
inductive Res where
 | val (v:V) (m:Mem)
 | st (x:Ex) (e:Env) (m:Mem)
abbrev Oracle:=Req->Option Res
def zfr (F:Oracle) (cx:Cx) (f:V) (args:List V) (m:Mem):Option (V×Mem):=
 match f with
 | .fn f first caps=>
  match F (.call cx.nx f (first ++args++caps) m) with
  | some (.val v m')=>some (v,m')
  | _=>none
 | .yld o=>
  match F (.round cx.nx o args m) with
  | some (.val v m')=>some (v,m')
  | _=>none
 | _=>none
def thaw (m:Mem):V->Option V
 | .tup vs=>(zdf true m vs).map fun xs=> .tup (asV xs)
 | v=>(freeze true m v).map .d
def zhq (nx:Nat) (l:List Id):Bool:=l.all fun i=>decide (i.lv<nx)
def zlh (cx:Cx) (slot lo:Nat) (imm:Bool) (old m:Mem) (v:V):Option (V×Mem):=
 if imm then
  if(ids v).all fun i=>decide (lo<=i.lv) then(thaw m v).map fun v=>(v,old) else none
 else settle cx slot lo old m v
def zg6 (F:Oracle) (cx:Cx) (slot:Nat) (shared imm:Bool) (f:V) (args:List V) (m:Mem):Option (V×Mem):=
 if shared then
  if zhq cx.nx (zhi m) then
   match zfr F cx f args m with
   | some (v,m')=>if zhq cx.nx (idsAll (zdr cx.nx m')) then zlh cx slot cx.nx imm (zdr cx.nx m') m' v else none
   | none=>none
  else none
 else
  match f with
  | .fn f first caps=>
   match zdf false m (first ++args++caps) with
   | some ds=>
    match F (.call 0 f (asV ds) []) with
    | some (.val v m')=>zlh cx slot 0 imm m m' v
    | _=>none
   | none=>none
  | _=>none
mutual
def zhh:D->D->Bool
 | .int k a,.int l b=>decide (k=l)&&decide (a=b)
 | .bool a,.bool b=>a==b
 | .str a,.str b=>a==b
 | .nil,.nil=>true
 | .list n a,.list m b=>n==m&&zhw a b
 | .agg a,.agg b=>zhw a b
 | .nilp,.nilp=>true
 | .nilf,.nilf=>true
 | .nili,.nili=>true
 | .ifc a,.ifc b=>a==b
 | .nilm,.nilm=>true
 | .fn a,.fn b=>a==b
 | _,_=>false
def zhw:List D->List D->Bool
 | [],[]=>true
 | x::r,y::q=>zhh x y&&zhw r q
 | _,_=>false
end
mutual
theorem zmt:∀(a b:D),zhh a b=true->a=b
 | .int k a,b,h=>by cases b<;>simp [zhh] at h;obtain⟨rfl,rfl⟩:=h;rfl
 | .bool a,b,h=>by cases b<;>simp [zhh] at h;subst h;rfl
 | .str a,b,h=>by cases b<;>simp [zhh] at h;subst h;rfl
 | .nil,b,h=>by cases b<;>simp [zhh] at h;rfl
 | .list n a,b,h=>by
  cases b<;>simp [zhh] at h
  obtain⟨rfl,h⟩:=h
  rw [zd4 a _ h]
 | .agg a,b,h=>by
  cases b<;>simp [zhh] at h
  rw [zd4 a _ h]
 | .nilp,b,h=>by cases b<;>simp [zhh] at h;rfl
 | .nilf,b,h=>by cases b<;>simp [zhh] at h;rfl
 | .nili,b,h=>by cases b<;>simp [zhh] at h;rfl
 | .ifc a,b,h=>by cases b<;>simp [zhh] at h;subst h;rfl
 | .nilm,b,h=>by cases b<;>simp [zhh] at h;rfl
 | .fn a,b,h=>by cases b<;>simp [zhh] at h;subst h;rfl
theorem zd4:∀(a b:List D),zhw a b=true->a=b
 | [],b,h=>by cases b<;>simp [zhw] at h;rfl
 | x::r,b,h=>by
  cases b<;>simp [zhw] at h
  rw [zmt x _ h.1,zd4 r _ h.2]
end
theorem ycy:∀(as1 bs:List V) (xs:List D),zo0 as1=some xs->zo0 bs=some xs->as1=bs
 | [],bs,xs,h,k=>by
  simp only [zo0,Option.some.injEq] at h
  subst h
  cases bs with
  | nil=>rfl
  | cons b r=>cases b<;>simp [zo0] at k
 | a::r,bs,xs,h,k=>by
  cases a with
  | d x=>
   simp only [zo0,Option.map_eq_some_iff] at h
   obtain⟨ys,h1,rfl⟩:=h
   cases bs with
   | nil=>simp [zo0] at k
   | cons b q=>
    cases b with
    | d y=>
     simp only [zo0,Option.map_eq_some_iff,List.cons.injEq] at k
     obtain⟨zs,k1,rfl,rfl⟩:=k
     rw [ycy r q _ h1 k1]
    | _=>simp [zo0] at k
  | _=>simp [zo0] at h
mutual
def zk8:V->V->Bool
 | .d a,.d b=>zhh a b
 | .agg a,.agg b=>zte a b
 | .tup a,.tup b=>zte a b
 | .ref o a b c,.ref o' a' b' c'=>decide (o=o')&&decide (a=a')&&decide (b=b')&&decide (c=c')
 | .ptr o a b,.ptr o' a' b'=>decide (o=o')&&decide (a=a')&&decide (b=b')
 | .lptr a n,.lptr b k=>zhw a b&&decide (n=k)
 | .cl n a,.cl k b=>zhw a b&&decide (n=k)
 | .fn f a b,.fn g c d=>decide (f=g)&&zte a c&&zte b d
 | .yld o,.yld o'=>decide (o=o')
 | .mp o,.mp o'=>decide (o=o')
 | .it o,.it o'=>decide (o=o')
 | .skip,.skip=>true
 | .undef,.undef=>true
 | _,_=>false
def zte:List V->List V->Bool
 | [],[]=>true
 | x::r,y::q=>zk8 x y&&zte r q
 | _,_=>false
end
mutual
theorem znp:∀(a b:V),zk8 a b=true->a=b
 | .d a,b,h=>by cases b<;>simp [zk8] at h;rw [zmt _ _ h]
 | .agg a,b,h=>by cases b<;>simp [zk8] at h;rw [zjk _ _ h]
 | .tup a,b,h=>by cases b<;>simp [zk8] at h;rw [zjk _ _ h]
 | .ref o a b c,v,h=>by cases v<;>simp [zk8] at h;obtain⟨⟨⟨rfl,rfl⟩,rfl⟩,rfl⟩:=h;rfl
 | .ptr o a b,v,h=>by cases v<;>simp [zk8] at h;obtain⟨⟨rfl,rfl⟩,rfl⟩:=h;rfl
 | .lptr a n,v,h=>by cases v<;>simp [zk8] at h;obtain⟨h,rfl⟩:=h;rw [zd4 _ _ h]
 | .cl n a,v,h=>by cases v<;>simp [zk8] at h;obtain⟨h,rfl⟩:=h;rw [zd4 _ _ h]
 | .fn f a b,v,h=>by cases v<;>simp [zk8] at h;obtain⟨⟨rfl,h1⟩,h2⟩:=h;rw [zjk _ _ h1,zjk _ _ h2]
 | .yld o,v,h=>by cases v<;>simp [zk8] at h;subst h;rfl
 | .mp o,v,h=>by cases v<;>simp [zk8] at h;subst h;rfl
 | .it o,v,h=>by cases v<;>simp [zk8] at h;subst h;rfl
 | .skip,v,h=>by cases v<;>simp [zk8] at h;rfl
 | .undef,v,h=>by cases v<;>simp [zk8] at h;rfl
theorem zjk:∀(a b:List V),zte a b=true->a=b
 | [],b,h=>by cases b<;>simp [zte] at h;rfl
 | x::r,b,h=>by
  cases b<;>simp [zte] at h
  rw [znp x _ h.1,zjk r _ h.2]
end
def yit:Env->Env->Bool
 | [],[]=>true
 | (t,v)::r,(u,w)::q=>decide (t=u)&&zk8 v w&&yit r q
 | _,_=>false
theorem z6s:∀(a b:Env),yit a b=true->a=b
 | [],b,h=>by cases b<;>simp [yit] at h;rfl
 | (t,v)::r,b,h=>by
  cases b<;>simp [yit] at h
  obtain⟨⟨rfl,h1⟩,h2⟩:=h
  rw [znp v _ h1,z6s r _ h2]
def ygj:List (D×V)->List (D×V)->Bool
 | [],[]=>true
 | (k,v)::r,(l,w)::q=>zhh k l&&zk8 v w&&ygj r q
 | _,_=>false
theorem z6u:∀(a b:List (D×V)),ygj a b=true->a=b
 | [],b,h=>by cases b<;>simp [ygj] at h;rfl
 | (t,v)::r,b,h=>by
  cases b<;>simp [ygj] at h
  obtain⟨⟨h0,h1⟩,h2⟩:=h
  rw [zmt t _ h0,znp v _ h1,z6u r _ h2]
def z7u:Ob->Ob->Bool
 | .cells t cs,.cells u ds=>decide (t=u)&&zte cs ds
 | .row a t sz n xs,.row b u sz' n' ys=>a==b&&decide (t=u)&&decide (sz=sz')&&decide (n=n')&&zhw xs ys
 | .map es,.map fs=>ygj es fs
 | _,_=>false
theorem yh2:∀(a b:Ob),z7u a b=true->a=b:=by
 intro a b h
 cases a<;>cases b<;>simp only [z7u,Bool.false_eq_true] at h
 ·simp only [Bool.and_eq_true,decide_eq_true_eq] at h
  rw [h.1,zjk _ _ h.2]
 ·simp only [Bool.and_eq_true,decide_eq_true_eq,beq_iff_eq] at h
  obtain⟨⟨⟨⟨rfl,rfl⟩,rfl⟩,rfl⟩,h⟩:=h
  rw [zd4 _ _ h]
 ·rw [z6u _ _ h]
def z4b (m1:Mem):Mem->Bool
 | []=>true
 | (i,o)::r=>(match look m1 i with
  | some o'=>z7u o o'
  | none=>false)&&z4b m1 r
def zl9 (σ:List (Id×Id)):List (Id×Id):=σ.map fun p=>(p.2,p.1)
def zrb (F:Oracle) (f:V) (args:List V) (m:Mem):Option V:=
 match f with
 | .fn f first caps=>
  let as1:=first ++args++caps
  let is:=reach 0 m 64 (idsL as1) []
  let σ:=number ⟨0,0⟩ 0 0 is
  if within is 0 (idsL as1)&&movable is 0 m then
   match F (.call 1 f (renL σ as1) (moved σ m σ)) with
   | some (.val v m1)=>if z4b m1 (moved σ m σ)&&(ids v).all (fun i=>(σ.map (·.2)).elem i) then some (ren (zl9 σ) v) else none
   | _=>none
  else none
 | _=>none
def okU:Ob->Bool
 | .cells .. =>true
 | .row .. =>true
 | .map _=>true
 | _=>false
def z0r (σ:List (Id×Id)) (m1:Mem):List (Id×Id)->Mem->Option Mem
 | [],m=>some m
 | (a,b)::r,m=>
  match look m1 b with
  | some o=>if okU o&&(idsO o).all (fun i=>(σ.map (·.2)).elem i) then z0r σ m1 r (upd m a (renO (zl9 σ) o)) else none
  | none=>none
def z1d (m:Mem):V->V
 | .ref o off len top=>
  match freeze false m (.ref o off len top) with
  | some d=> .d d
  | none=> .ref o off len top
 | v=>v
def ztu (F:Oracle) (imm:Bool) (f:V) (args:List V) (m:Mem):Option (V×Mem):=
 match f with
 | .fn f first caps=>
  let as1:=(first ++args++caps).map (z1d m)
  let is:=reach 0 m 64 (idsL as1) []
  let σ:=number ⟨0,0⟩ 0 0 is
  if within is 0 (idsL as1)&&movable is 0 m then
   match F (.call 1 f (renL σ as1) (moved σ m σ)) with
   | some (.val v m1)=>
    if imm then
     if zhq 1 (zhi (moved σ m σ))&&zhq 1 (idsAll (zdr 1 m1)) then
      match zlh ⟨0,1⟩ 0 1 true (zdr 1 m1) m1 v with
      | some (v',m2)=>if(ids v').all (fun i=>(σ.map (·.2)).elem i) then(z0r σ m2 σ m).map fun m'=>(ren (zl9 σ) v',m') else none
      | none=>none
     else none
    else if(ids v).all (fun i=>(σ.map (·.2)).elem i) then(z0r σ m1 σ m).map fun m'=>(ren (zl9 σ) v,m') else none
   | _=>none
  else none
 | _=>none
def zfk (sz:Nat):Nat->List D->List (List D)
 | 0,_=>[]
 | n+1,ds=>ds.take sz::zfk sz n (ds.drop sz)
def zqp (x:List D):List (List D)->Option (List (List D))
 | []=>none
 | y::r=>if zhw x y then some r else(zqp x r).map (y::·)
def z7o:List (List D)->List (List D)->Bool
 | [],[]=>true
 | x::r,l=>
  match zqp x l with
  | some l'=>z7o r l'
  | none=>false
 | [],_::_=>false
theorem zoc (x:List D):∀(l r:List (List D)),zqp x l=some r->l.Perm (x::r)
 | [],r,h=>by simp [zqp] at h
 | y::q,r,h=>by
  simp only [zqp] at h
  split at h
  ·rename_i e
   obtain rfl:=Option.some.inj h
   rw [zd4 _ _ e]
  ·simp only [Option.map_eq_some_iff] at h
   obtain⟨r',h1,rfl⟩:=h
   exact((zoc x q r' h1).cons y).trans (.swap x y r')
theorem zz3:∀(a b:List (List D)),z7o a b=true->a.Perm b
 | [],b,h=>by cases b<;>simp [z7o] at h;exact .refl _
 | x::r,b,h=>by
  simp only [z7o] at h
  split at h
  ·rename_i l' e
   exact((zz3 r l' h).cons x).trans (zoc x b l' e).symm
  ·cases h
def yc4 (sz n:Nat) (xs ys:List D):Bool:=decide (xs.length=n*sz)&&decide (ys.length=n*sz)&&z7o (zfk sz n xs) (zfk sz n ys)
def zym (o0:Option Ob):Ob->Ob
 | .loop e ps a b lv bu ov j=>
  match o0 with
  | some (.loop _ ps0 a0 b0 lv0 _ _ _)=> .loop e ps0 a0 b0 lv0 bu ov j
  | _=> .loop e ps a b lv bu ov j
 | o=>o
def z8w (o0:Option Ob):Ob->Ob
 | .row true t sz n xs=>
  match o0 with
  | some (.row true _ _ n0 _)=>if n0=n then .row true t sz n xs else .bag t sz n xs
  | _=> .bag t sz n xs
 | o=>o
def yb3:Option yct->Option yct->Bool
 | none,none=>true
 | some (.exit a),some (.exit b)=>decide (a=b)
 | some .ret,some .ret=>true
 | _,_=>false
def z8g (k:D) (v:V):List (D×V)->Option (List (D×V))
 | []=>none
 | (l,w)::r=>if zhh k l&&zk8 v w then some r else(z8g k v r).map ((l,w)::·)
def zrz:List (D×V)->List (D×V)->Bool
 | [],[]=>true
 | (k,v)::r,q=>
  match z8g k v q with
  | some q'=>zrz r q'
  | none=>false
 | [],_::_=>false
theorem ztr (k:D) (v:V):∀(l r:List (D×V)),z8g k v l=some r->l.Perm ((k,v)::r)
 | [],r,h=>by simp [z8g] at h
 | (y,w)::q,r,h=>by
  simp only [z8g] at h
  split at h
  ·rename_i e
   obtain rfl:=Option.some.inj h
   simp only [Bool.and_eq_true] at e
   rw [zmt _ _ e.1,znp _ _ e.2]
  ·simp only [Option.map_eq_some_iff] at h
   obtain⟨r',h1,rfl⟩:=h
   exact((ztr k v q r' h1).cons (y,w)).trans (.swap (k,v) (y,w) r')
theorem zxm:∀(a b:List (D×V)),zrz a b=true->a.Perm b
 | [],b,h=>by cases b<;>simp [zrz] at h;exact .refl _
 | (k,v)::r,b,h=>by
  simp only [zrz] at h
  split at h
  ·rename_i l' e
   exact((zxm r l' h).cons (k,v)).trans (ztr k v b l' e).symm
  ·cases h
def z3r:List (D×V)->Bool
 | []=>true
 | (k,_)::r=>(r.all fun b=>match eqD k b.1 with
   | some false=>true
   | _=>false)&&z3r r
def leO (o0:Option Ob):Ob->Ob->Bool
 | .cells t cs,.cells u ds=>decide (t=u)&&zte cs ds
 | .row w t sz n xs,.row w' t' sz' n' ys=>decide (w=w')&&decide (t=t')&&decide (sz=sz')&&decide (n=n')&&zhw xs ys
 | .row true t sz n xs,.bag t' sz' n' ys=>decide (t=t')&&decide (sz=sz')&&decide (n=n')&&yc4 sz n ys xs
 | .bag t sz n xs,.bag t' sz' n' ys=>decide (t=t')&&decide (sz=sz')&&decide (n=n')&&zhw xs ys
 | .map es,.map fs=>ygj es fs||(z3r fs&&zrz es fs)
 | .iter s p,.iter s' p'=>decide (s=s')&&decide (p=p')
 | .loop e _ _ _ _ bu ov j,.loop e' _ _ _ _ bu' ov' j'=>
  match o0 with
  | some (.loop ..)=>yit e e'&&decide (bu=bu')&&decide (ov=ov')&&yb3 j j'
  | _=>false
 | .gone,.gone=>true
 | _,_=>false
def leM (m0:Mem):Mem->Mem->Bool
 | [],[]=>true
 | (i,o)::r,(j,o')::r'=>decide (i=j)&&leO (look m0 i) o o'&&leM m0 r r'
 | _,_=>false
def zfe (bag:Bool) (m0 m:Mem):Mem:=m.map fun p=>(p.1,if bag then z8w (look m0 p.1) (zym (look m0 p.1) p.2) else zym (look m0 p.1) p.2)
def yk2:Ex->Ex->Bool
 | .normal,.normal=>true
 | .exit a,.exit b=>decide (a=b)
 | .ret,.ret=>true
 | _,_=>false
def z38 {α:Type} (x:α):List α->List (List α)
 | []=>[[x]]
 | y::r=>(x::y::r)::(z38 x r).map (y::·)
def zql {α:Type}:List α->List (List α)
 | []=>[[]]
 | x::r=>(zql r).flatMap (z38 x)
theorem zzt {α:Type} (x:α):∀(l q:List α),q∈z38 x l↔∃a b,l=a++b/\q=a++x::b
 | [],q=>by
  simp only [z38,List.mem_singleton,List.nil_eq,List.append_eq_nil_iff]
  exact⟨fun h=>⟨[],[],⟨rfl,rfl⟩,h⟩,fun⟨a,b,⟨h1,h2⟩,h3⟩=>by subst h1;subst h2;exact h3⟩
 | y::r,q=>by
  simp only [z38,List.mem_cons,List.mem_map,zzt x r]
  constructor
  ·rintro(rfl|⟨q',⟨a,b,rfl,rfl⟩,rfl⟩)
   ·exact⟨[],y::r,rfl,rfl⟩
   ·exact⟨y::a,b,rfl,rfl⟩
  ·rintro⟨a,b,h,rfl⟩
   cases a with
   | nil=>left;simp only [List.nil_append] at h;subst h;rfl
   | cons z a=>
    simp only [List.cons_append,List.cons.injEq] at h
    obtain⟨rfl,rfl⟩:=h
    exact .inr ⟨a++x::b,⟨a,b,rfl,rfl⟩,rfl⟩
theorem zim {α:Type}:∀(l q:List α),q∈zql l↔q.Perm l
 | [],q=>by simp [zql]
 | x::r,q=>by
  simp only [zql,List.mem_flatMap,zzt,zim r]
  constructor
  ·rintro⟨p,hp,a,b,rfl,rfl⟩
   exact List.perm_middle.trans (hp.cons x)
  ·intro h
   have hx:x∈q:=h.symm.subset (by simp)
   obtain⟨a,b,rfl⟩:=List.append_of_mem hx
   exact⟨a++b,(List.perm_middle.symm.trans h).cons_inv,a,b,rfl,rfl⟩
def Ex.on (nxt:Nat):Ex->Bool
 | .normal=>true
 | .exit j=>Nat.beq j nxt
 | .ret=>false
def zvc (out:Nat) (live:List Nat) (p:Ex×Env×Mem):Ex×Env×Mem:=
 match p with
 | (.exit j,e,m)=>if j=out then(.normal,only live e,m) else(.exit j,e,m)
 | p=>p
def zd3 (it:Nat) (i:Id) (out nxt:Nat) (live:List Nat) (keep:List Id) (next:Env->Mem->Option (Ex×Env×Mem)) (p:Ex×Env×Mem):Option (Ex×Env×Mem):=
 match p.1.on nxt with
 | true=>if zk8 (get p.2.1 it) (.it i) then next (only live p.2.1) (gc keep (only live p.2.1) p.2.2) else none
 | false=>some (zvc out live p)
def zcl (body:Env->Mem->Option (Ex×Env×Mem)) (it:Nat) (i:Id) (out nxt pair:Nat) (live:List Nat) (keep:List Id):List (D×V)->Env->Mem->Option (Ex×Env×Mem)
 | [],e,m=>some (.normal,e,m)
 | (k,v)::r,e,m=>(body (put e pair (.tup [.d k,v])) m).bind (zd3 it i out nxt live keep (zcl body it i out nxt pair live keep r))
def z8q {α β:Type} (run:α->Option β):List α->Option (List β)
 | []=>some []
 | a::r=>(run a).bind fun b=>(z8q run r).bind fun bs=>some (b::bs)
theorem z0n {α β:Type} {run:α->Option β}:∀ {l:List α} {rs:List β},z8q run l=some rs->∀a∈l,∃b∈rs,run a=some b
 | [],_,_,a,ha=>by simp at ha
 | x::r,rs,h,a,ha=>by
  simp only [z8q,Option.bind_eq_some_iff,Option.some.injEq] at h
  obtain⟨b,h1,bs,h2,rfl⟩:=h
  rcases List.mem_cons.1 ha with rfl|ha
  ·exact⟨b,by simp,h1⟩
  ·obtain⟨c,hc,h3⟩:=z0n h2 a ha
   exact⟨c,by simp [hc],h3⟩
def zot (m0:Mem) (p:Ex×Env×Mem) (rs:List (Ex×Env×Mem)):Option (Ex×Env×Mem):=
 if rs.all fun q=>yk2 q.1 p.1&&yit q.2.1 p.2.1&&leM m0 q.2.2 (zfe true m0 p.2.2) then some (p.1,p.2.1,zfe true m0 p.2.2) else none
def znd (run:List (D×V)->Option (Ex×Env×Mem)) (m0:Mem) (es:List (D×V)):Option (Ex×Env×Mem):=
 (run es).bind fun p=>(z8q run (zql es)).bind (zot m0 p)
def zuw (m:Mem) (p:V×Mem) (rs:List (V×Mem)):Option (V×Mem):=
 if rs.all fun q=>zk8 q.1 p.1&&leM m q.2 (zfe false m p.2) then some (p.1,zfe false m p.2) else none
def zh3 (run:Mem->Option (V×Mem)) (m:Mem) (v:V):Option (V×Mem):=
 match v with
 | .ref o _ _ _=>
  match look m o with
  | some (.bag t sz n xs)=>
   if xs.length=n*sz then
    (run (upd m o (.row true t sz n xs))).bind fun p=>(z8q (fun l=>run (upd m o (.row true t sz n l.flatten))) (zql (zfk sz n xs))).bind (zuw m p)
   else none
  | _=>run m
 | _=>run m
def zr3 (o:Id) (es:List (D×V)) (p:Ex×Env×Mem):Option (Ex×Env×Mem):=
 match look p.2.2 o with
 | some .gone=>some (p.1,p.2.1,upd p.2.2 o (.map es))
 | _=>none
def zgr (body:Env->Mem->Option (Ex×Env×Mem)) (cx:Cx) (it:Nat) (x:Opd) (out nxt pair:Nat) (live:List Nat) (e1:Env) (m1:Mem):Option (Ex×Env×Mem):=
 match x.ev e1 with
 | .mp o=>
  match look m1 o with
  | some (.map es)=>
   let i:=newId cx it m1
   let m2:=upd (upd m1 i .gone) o .gone
   (znd (fun p=>zcl body it i out nxt pair live (zhi m2) p (only live (put e1 it (.it i))) m2) m2 es).bind (zr3 o es)
  | _=>none
 | _=>none
def z8s:V->List V->Bool
 | .ptr o _ _,vs=>vs.all fun v=>
  match v with
  | .ptr o' _ _=> !decide (o'=o)
  | _=>false
 | _,_=>false
def z8r:V->List V->Bool
 | .mp o,vs=>vs.all fun v=>
  match v with
  | .ptr o' _ _=> !decide (o'=o)
  | _=>false
 | _,_=>false
def yk1:V->V->Bool
 | .d a,.d b=>zhh a b
 | .ref o a b c,.ref o' a' b' c'=>decide (o=o')&&decide (a=a')&&decide (b=b')&&decide (c=c')
 | .ptr o a b,.ptr o' a' b'=>decide (o=o')&&decide (a=a')&&decide (b=b')
 | _,_=>false
theorem yh4 (a b:V) (h:yk1 a b=true):a=b:=by
 unfold yk1 at h
 split at h
 ·rw [zmt _ _ h]
 ·simp only [Bool.and_eq_true,decide_eq_true_eq] at h
  obtain⟨⟨⟨rfl,rfl⟩,rfl⟩,rfl⟩:=h
  rfl
 ·simp only [Bool.and_eq_true,decide_eq_true_eq] at h
  obtain⟨⟨rfl,rfl⟩,rfl⟩:=h
  rfl
 ·cases h
def z48:List V->List V->Bool
 | [],[]=>true
 | x::r,y::q=>yk1 x y&&z48 r q
 | _,_=>false
theorem z49:∀(a b:List V),z48 a b=true->a=b
 | [],b,h=>by cases b<;>simp [z48] at h;rfl
 | x::r,b,h=>by
  cases b<;>simp [z48] at h
  rw [yh4 x _ h.1,z49 r _ h.2]
def yl3:Option Ob->Option Ob->Bool
 | some (.cells t cs),some (.cells u ds)=>decide (t=u)&&z48 cs ds
 | _,_=>false
def z64 (m m':Mem):List V->Bool
 | []=>true
 | .ptr o _ _::r=>yl3 (look m o) (look m' o)&&z64 m m' r
 | _::_=>false
def zbz (F:Oracle) (cx:Cx) (slot:Nat) (e:Env) (m:Mem):COp->Option (V×Mem)
 | .mv x=>some (x.ev e,m)
 | .ownNil r=>
  let i:=newId cx slot m
  some (.ref i 0 0 0,upd m i (.row r.wr r.t r.sz 0 []))
 | .pick c a b=>
  match c.ev e with
  | .d (.bool t)=>some (if t then a.ev e else b.ev e,m)
  | _=>none
 | .alloc t cs=>
  let p:=zbd cx slot cs m
  let i:=newId cx slot p.2
  some (.ptr i 0 0,upd p.2 i (.cells t p.1))
 | .box t x=>
  match cellsOf (x.ev e) with
  | some cs=>
   let i:=newId cx slot m
   some (.ptr i 0 0,upd m i (.cells t cs))
  | none=>none
 | .build zero parts=>
  let p:=zbd cx slot zero m
  (z3x p.1 (zry e parts)).map fun cs=>(z7b cs,p.2)
 | .mkList sz n parts=>(zm9 sz m (evs e parts)).map fun ds=>(.d (.list n ds),m)
 | .mkListD sz n parts=>if yd2 (evs e parts) then(zm9 sz [] (evs e parts)).map fun ds=>(.d (.list n ds),m) else none
 | .mkRow r n parts=>
  (zm9 r.sz m (evs e parts)).map fun ds=>
   let i:=newId cx slot m
   (.ref i 0 n n,upd m i (.row r.wr r.t r.sz n ds))
 | .load n a=>(zxb n m (a.ev e)).map fun v=>(v,m)
 | .store n a x=>(zse n m (a.ev e) (x.ev e)).map fun m=>(.skip,m)
 | .nilCheck x=>
  if z2r m (x.ev e) then some (x.ev e,m)
  else
   match znc (x.ev e) with
   | .fn f a b=>some (.fn f a b,m)
   | _=>none
 | .bin op x y=>(ylg op (x.ev e) (y.ev e)).map fun v=>(.d v,m)
 | .eqv ks neg x y=>(eqV ks (x.ev e) (y.ev e)).map fun r=>(.d (.bool (if neg then !r else r)),m)
 | .un op x=>(unD op (x.ev e)).map fun v=>(.d v,m)
 | .conv k x=>
  match x.ev e with
  | .d (.int _ n)=>some (.d (.int k (k.wrap n)),m)
  | _=>none
 | .mkFunc f first caps=>some (.fn f (evs e first) (evs e caps),m)
 | .makeRow r zero n=>
  match n.ev e with
  | .d (.int _ n)=>
   if 0<=n/\zero.length=r.sz/\zr5 n.toNat r.by_ then
    let i:=newId cx slot m
    some (.ref i 0 n.toNat n.toNat,upd m i (.row r.wr r.t r.sz n.toNat (List.replicate n.toNat zero).flatten))
   else none
  | _=>none
 | .sliceS x lo hi=>
  match x.ev e with
  | .d (.str s)=>
   match zb3 s.length (lo.map (·.ev e)) (hi.map (·.ev e)) with
   | some (l,h)=>some (.d (.str (win s l (h-l))),m)
   | none=>none
  | _=>none
 | .slice sz x lo hi mx=>(zpo sz m (x.ev e) (lo.map (·.ev e)) (hi.map (·.ev e)) (mx.map (·.ev e))).map fun v=>(v,m)
 | .fieldAddr off x=>(zer off m (x.ev e)).map fun v=>(v,m)
 | .field off n x=>(yew n (x.ev e) off).map fun v=>(v,m)
 | .idxAddr sz x i=>(zjm sz m (x.ev e) (i.ev e)).map fun v=>(v,m)
 | .idxAddrA len sz x i=>
  match asI (i.ev e) with
  | some i=>if 0<=i/\i<len then(zer (i.toNat*sz) m (x.ev e)).map fun v=>(v,m) else none
  | none=>none
 | .idxS x i=>
  match x.ev e,asI (i.ev e) with
  | .d (.str s),some i=>if 0<=i then(s[i.toNat]?).map fun b=>(.d (.int .u8 b.toNat),m) else none
  | _,_=>none
 | .mkMap=>
  let i:=newId cx slot m
  some (.mp i,upd m i (.map []))
 | .lookup kk zero ok x key=>(zk9 kk zero ok m (x.ev e) (key.ev e)).map fun v=>(v,m)
 | .mapSet kk x key v=>(zf3 kk m (x.ev e) (key.ev e) (v.ev e)).map fun m=>(.skip,m)
 | .rangeS x=>
  match x.ev e with
  | .d (.str s)=>
   let i:=newId cx slot m
   some (.it i,upd m i (.iter s 0))
  | _=>none
 | .nextS x=>yhh m (x.ev e)
 | .extract x i=>
  match x.ev e with
  | .tup vs=>(vs[i]?).map fun v=>(v,m)
  | _=>none
 | .call shared imm f args=>zg6 F cx slot shared imm (znc (f.ev e)) (evs e args) m
 | .storeR n a x rs=>if z8s (a.ev e) (rs.map (get e))=true then(zse n m (a.ev e) (x.ev e)).map fun m=>(.skip,m) else none
 | .callR imm f args rs=>
  match zg6 F cx slot true imm (znc (f.ev e)) (evs e args) m with
  | some (v,m')=>if z64 m m' (rs.map (get e))=true then some (v,m') else none
  | none=>none
 | .bad=>none
 | .appendZ r zero s n=>
  match s.ev e,n.ev e with
  | .d .nil,.d (.int .i64 n)=>
   if 0<n/\zero.length=r.sz/\zr5 n.toNat r.by_ then
    let i:=newId cx slot m
    some (.ref i 0 n.toNat n.toNat,upd m i (.row r.wr r.t r.sz n.toNat (List.replicate n.toNat zero).flatten))
   else none
  | _,_=>none
 | .callB imm f args b=>zh3 (fun m=>zg6 F cx slot true imm (znc (f.ev e)) (evs e args) m) m (get e b)
 | .mapSetR kk x key v rs=>if z8r (x.ev e) (rs.map (get e))=true then(zf3 kk m (x.ev e) (key.ev e) (v.ev e)).map fun m=>(.skip,m) else none
 | .appendIn r s x=>zqu r m (s.ev e) (x.ev e)
 | .callD f args=>
  match znc (f.ev e) with
  | .fn g [] []=>if yd2 (evs e args) then zg6 F cx slot false true (.fn g [] []) (evs e args) m else none
  | _=>none
 | .callK imm f args=>
  match zg6 F cx slot true imm (znc (f.ev e)) (evs e args) m with
  | some (v,m')=>if leM m m' m=true then some (v,m) else none
  | none=>none
 | .callQ f args=>(zrb F (znc (f.ev e)) (evs e args) m).map fun v=>(v,m)
 | .callU imm f args=>ztu F imm (znc (f.ev e)) (evs e args) m
 | .callN f args=>
  match znc (f.ev e) with
  | .fn g [] []=>if yd2 (evs e args) then zg6 F cx slot false false (.fn g [] []) (evs e args) m else none
  | _=>none
 | .nilEq kd neg x=>
  match yeh m (x.ev e) with
  | some (k,b)=>if k=kd then some (.d (.bool (if neg then !b else b)),m) else none
  | none=>none
 | .loadD n a=>
  match a.ev e with
  | .lptr cs off=>(zyq n cs off).map fun v=>(v,m)
  | _=>none
 | .sealMv x=>some (x.ev e,yfl m (x.ev e))
 | .sliceC _ x hi mx=>
  match x.ev e,asI (hi.ev e),asI (mx.ev e) with
  | .d (.list n cs),some h,some k=>if h=n/\k=n then some (.cl n cs,m) else none
  | _,_,_=>none
 | .fieldAddrD off x=>
  match x.ev e with
  | .lptr cs b=>some (.lptr cs (b+off),m)
  | _=>none
 | .idxAddrD sz x i=>
  match x.ev e,asI (i.ev e) with
  | .d (.list n cs),some i=>if 0<=i/\i<n then some (.lptr cs (i.toNat*sz),m) else none
  | _,_=>none
 | .len k x=>(ycs m k (x.ev e)).map fun(n:Nat)=>(V.d (.int .i64 (n:Int)),m)
 | .append r s x=>zpr cx slot r m (s.ev e) (x.ev e)
 | .appendS r s x=>zqw cx slot r m (s.ev e) (x.ev e)
 | .appendF r s x=>
  match zpr cx slot r m (s.ev e) (x.ev e) with
  | some (v,m')=>(freeze false m' v).map fun d=>(.d d,m')
  | none=>none
 | .strB x=>
  match x.ev e with
  | .d (.list 1 [.int .u8 n])=>some (.d (.str [UInt8.ofNat n.toNat]),m)
  | _=>none
 | .minmax mx args=>(zmi mx (evs e args)).map fun v=>(.d v,m)
def zdd (F:Oracle) (cx:Cx) (e:Env) (m:Mem) (o:CO):Option (V×Mem):=
 match o.guard with
 | none=>zbz F cx (o.dst.getD 0) e m o.op
 | some (t,want)=>
  match get e t with
  | .d (.bool b)=>if b=want then zbz F cx (o.dst.getD 0) e m o.op else some (.skip,m)
  | .skip=>some (.skip,m)
  | _=>none
def zfd (F:Oracle) (cx:Cx):List CO->Env->Mem->Option (Env×Mem)
 | [],e,m=>some (e,m)
 | o::r,e,m=>
  match zdd F cx e m o with
  | some (v,m')=>zfd F cx r (put? e o.dst v) m'
  | none=>none
def ydf (e:Env):List (Nat×Nat)->Bool
 | []=>true
 | (a,b)::r=>((ids (get e a)).all fun i=> !(ids (get e b)).elem i)&&ydf e r
def yct.ex:yct->Ex
 | .exit id=> .exit id
 | .ret=> .ret
def evC (F:Oracle) (cx:Cx):C->Env->Mem->Option (Ex×Env×Mem)
 | .skip,e,m=>some (.normal,e,m)
 | .label,e,m=>some (.normal,e,m)
 | .reg _ ops kill,e,m=>(zfd F cx ops e m).map fun p=>(.normal,zbs kill p.1,p.2)
 | .regC ops kill chk,e,m=>(zfd F cx ops e m).bind fun p=>if ydf p.1 chk then some (.normal,zbs kill p.1,p.2) else none
 | .seq a b,e,m=>
  match evC F cx a e m with
  | some (.normal,e',m')=>evC F cx b e' m'
  | r=>r
 | .cond c a b,e,m=>
  match c.ev e with
  | .d (.bool t)=>if t then evC F cx a e m else evC F cx b e m
  | _=>none
 | .block id c,e,m=>
  match evC F cx c e m with
  | some (.exit j,e',m')=>if j=id then some (.normal,e',m') else some (.exit j,e',m')
  | r=>r
 | .loop live c,e,m=>
  match F (.loop cx live (zhi m) c (only live e) (gc (zhi m) (only live e) m)) with
  | some (.st x e' m')=>some (x,e',m')
  | _=>none
 | .exit id,e,m=>some (.exit id,e,m)
 | .ret,e,m=>some (.ret,e,m)
 | .bad,_,_=>none
 | .scope c,e,m=>evC F cx c e m
 | .fz t c,e,m=>
  match freeze false m (get e t) with
  | some d=>evC F cx c (put e t (.d d)) m
  | none=>none
 | .rangeM pre it x out nxt pair live ops kill code,e,m=>
  (zfd F cx pre e m).bind fun p=>zgr (fun e m=>(zfd F cx ops e m).bind fun q=>evC F cx code (zbs kill q.1) q.2) cx it x out nxt pair live p.1 p.2
 | .rangeFn slot f ps a b,e,m=>
  let i:=newId cx slot m
  let m1:=upd m i (.loop e ps a b cx.lv false false none)
  if zhq cx.nx (zhi m1) then
   match f.ev e with
   | .fn g first caps=>
    match F (.call cx.nx g (first ++[.yld i]++caps) m1) with
    | some (.val _ m')=>
     match look m' i with
     | some (.loop _ _ _ _ _ false _ j)=>
      if zhq cx.nx (idsAll (zdr cx.nx m')) then
       let m2:=upd (zdr cx.nx m') i .gone
       match j with
       | none=>some (.normal,e,m2)
       | some j=>some (j.ex,e,m2)
      else none
     | _=>none
    | _=>none
   | _=>none
  else none
def ylc:List Nat->List V->Env->Env
 | t::r,v::s,e=>ylc r s (put e t v)
 | _,_,e=>e
def params (i:Nat):List V->Env
 | []=>[]
 | v::r=>(i,v)::params (i+1) r
def ymg (m:Mem) (e:Env):RV->Option V
 | .tmp t=>some (get e t)
 | .cell t n=>zxb n m (get e t)
def zys (m:Mem) (e:Env):List RV->Option (List V)
 | []=>some []
 | x::r=>
  match ymg m e x,zys m e r with
  | some v,some vs=>some (v::vs)
  | _,_=>none
def results (m:Mem) (e:Env) (rs:List RV):Option V:=
 match rs with
 | [r]=>ymg m e r
 | rs=>(zys m e rs).map .tup
abbrev Extern:=Nat->Option (List V->Mem->Option (V×Mem))
def step (Γ:Nat->Option CF) (X:Extern) (F:Oracle):Req->Option Res
 | .call lv f args m=>
  match X f with
  | some x=>(x args m).map fun p=> .val p.1 p.2
  | none=>
   match Γ f with
   | some cf=>
    match evC F ⟨lv,lv+1⟩ cf.body (params 0 args) m with
    | some (.normal,e,m')=>(results m' e cf.results).map fun v=> .val v m'
    | some (.ret,e,m')=>(results m' e cf.results).map fun v=> .val v m'
    | _=>none
   | none=>none
 | .round nx o args m=>
  match look m o with
  | some (.loop e ps a b lv false false _)=>
   if ps.length=args.length then
    match evC F ⟨lv,nx⟩ a (ylc ps args e) m with
    | some (.normal,e1,m1)=>
     match look m1 o with
     | some (.loop e' ps' a' b' lv' false false j')=>
      match evC F ⟨lv,nx⟩ b e1 (upd m1 o (.loop e' ps' a' b' lv' true false j')) with
      | some (x,_,m2)=>
       match look m2 o with
       | some (.loop e' ps' a' b' lv' true false _)=>
        match x with
        | .normal=>some (.val (.d (.bool true)) (gc (zhi m) [] (upd m2 o (.loop e' ps' a' b' lv' false false none))))
        | .exit id=>some (.val (.d (.bool false)) (upd m2 o (.loop e' ps' a' b' lv' false true (some (.exit id)))))
        | .ret=>some (.val (.d (.bool false)) (upd m2 o (.loop e' ps' a' b' lv' false true (some .ret))))
       | _=>none
      | none=>none
     | _=>none
    | _=>none
   else none
  | _=>none
 | .loop cx live keep body e m=>
  match evC F cx body e m with
  | some (.normal,e',m')=>F (.loop cx live keep body (only live e') (gc keep (only live e') m'))
  | some (x,e',m')=>some (.st x e' m')
  | none=>none
abbrev Globs:=List (Nat×List D)
def findC {α:Type} (f:Nat):List (Nat×α)->Option α
 | []=>none
 | (i,c)::r=>match Nat.beq i f with
  | true=>some c
  | false=>findC f r
theorem findC_mem {α:Type} (f:Nat) (c:α):∀l:List (Nat×α),findC f l=some c->(f,c)∈l
 | [],h=>by simp [findC] at h
 | (i,d)::r,h=>by
  simp only [findC] at h
  split at h
  ·rename_i e
   obtain rfl:=Option.some.inj h
   rw [Nat.eq_of_beq_eq_true e];simp
  ·exact List.mem_cons_of_mem _ (findC_mem f c r h)
def iter (Γ:Nat->Option CF) (X:Extern):Nat->Oracle
 | 0=>fun _=>none
 | n+1=>step Γ X (iter Γ X n)
end Go.Evl
