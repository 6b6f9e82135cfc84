
/-
 The evaluator of Go functions on data: its values, its own ymb syntax, and its meaning (no World, no tape). Nothing here speaks of a program.
-/
import GoSem.Core.Code
import GoSem.Core.View
import GoSem.Core.Utf8
namespace Go.Evl
inductive D where
 | int (k:IntKind) (n:Int)
 | bool (b:Bool)
 | str (s:List UInt8)
 | nil
 | list (n:Nat) (cs:List D)
 | agg (cs:List D)
 | nilp
 | nilf
 | nili
 | ifc (b:Bool)
 | nilm
 | fn (f:Nat)
structure Id where
 lv:Nat
 slot:Nat
 k:Nat
 deriving DecidableEq
inductive V where
 | d (x:D)
 | agg (cs:List V)
 | tup (vs:List V)
 | ref (o:Id) (off len top:Nat)
 | ptr (o:Id) (off top:Nat)
 | lptr (cs:List D) (off:Nat)
 | cl (n:Nat) (cs:List D)
 | fn (f:Nat) (first caps:List V)
 | yld (o:Id)
 | mp (o:Id)
 | it (o:Id)
 | skip
 | undef
inductive Opd where
 | t (n:Nat)
 | k (v:V)
structure zcp where
 wr:Bool
 t:Nat
 sz:Nat
 by_:Nat
inductive Kd where
 | str
 | slc
 | map
 | cap
inductive KK where
 | int
 | str
 | bool
 | rc (l:List Bool)
 deriving DecidableEq
inductive ybl where
 | z (x:D)
 | own (r:zcp)
inductive COp where
 | mv (x:Opd)
 | ownNil (r:zcp)
 | pick (c a b:Opd)
 | alloc (t:Nat) (cs:List ybl)
 | box (t:Nat) (x:Opd)
 | build (zero:List ybl) (parts:List (Nat×Nat×Opd))
 | mkList (sz n:Nat) (parts:List Opd)
 | mkListD (sz n:Nat) (parts:List Opd)
 | mkRow (r:zcp) (n:Nat) (parts:List Opd)
 | load (n:Option Nat) (a:Opd)
 | store (n:Nat) (a x:Opd)
 | nilCheck (x:Opd)
 | bin (op:BinOp) (x y:Opd)
 | eqv (ks:Option (List KK)) (neg:Bool) (x y:Opd)
 | un (op:UnOp) (x:Opd)
 | conv (k:IntKind) (x:Opd)
 | mkFunc (f:Nat) (first caps:List Opd)
 | makeRow (r:zcp) (zero:List D) (n:Opd)
 | sliceS (x:Opd) (lo hi:Option Opd)
 | slice (sz:Nat) (x:Opd) (lo hi mx:Option Opd)
 | fieldAddr (off:Nat) (x:Opd)
 | field (off:Nat) (n:Option Nat) (x:Opd)
 | idxAddr (sz:Nat) (x i:Opd)
 | idxAddrA (len sz:Nat) (x i:Opd)
 | idxS (x i:Opd)
 | idxA (len sz:Nat) (n:Option Nat) (x i:Opd)
 | mkMap
 | lookup (kk:KK) (zero:D) (ok:Bool) (m key:Opd)
 | mapSet (kk:KK) (m key x:Opd)
 | rangeS (x:Opd)
 | nextS (x:Opd)
 | extract (x:Opd) (i:Nat)
 | call (shared:Bool) (imm:Bool) (f:Opd) (args:List Opd)
 | storeR (n:Nat) (a x:Opd) (rs:List Nat)
 | callR (imm:Bool) (f:Opd) (args:List Opd) (rs:List Nat)
 | callB (imm:Bool) (f:Opd) (args:List Opd) (b:Nat)
 | bad
 | mapSetR (kk:KK) (m key x:Opd) (rs:List Nat)
 | appendIn (r:zcp) (s x:Opd)
 | appendZ (r:zcp) (zero:List D) (s n:Opd)
 | loadD (n:Option Nat) (a:Opd)
 | nilEq (kd:Nat) (neg:Bool) (x:Opd)
 | callD (f:Opd) (args:List Opd)
 | callN (f:Opd) (args:List Opd)
 | callK (imm:Bool) (f:Opd) (args:List Opd)
 | callQ (f:Opd) (args:List Opd)
 | callU (imm:Bool) (f:Opd) (args:List Opd)
 | callZ (f:Opd) (args:List Opd)
 | idxAddrD (sz:Nat) (x i:Opd)
 | fieldAddrD (off:Nat) (x:Opd)
 | sealMv (x:Opd)
 | sliceC (sz:Nat) (x hi mx:Opd)
 | len (k:Kd) (x:Opd)
 | append (r:zcp) (s x:Opd)
 | appendS (r:zcp) (s x:Opd)
 | appendF (r:zcp) (s x:Opd)
 | strB (x:Opd)
 | copy (sz:Nat) (dst src:Opd)
 | minmax (mx:Bool) (args:List Opd)
 | clear (zero:List D) (x:Opd)
structure CO where
 dst:Option Nat
 guard:Option (Nat×Bool)
 op:COp
abbrev kq (n:Int):Opd:= .k (.d (.int .i64 n))
abbrev tq (n:Nat) (op:COp):CO:=⟨some n,none,op⟩
abbrev ld (n a:Nat):CO:=⟨some n,none,.load none (.t a)⟩
abbrev fa (n off a:Nat):CO:=⟨some n,none,.fieldAddr off (.t a)⟩
abbrev mq (n m:Nat):CO:=⟨some n,none,.mv (.t m)⟩
abbrev xq (n m i:Nat):CO:=⟨some n,none,.extract (.t m) i⟩
abbrev lq (n k a:Nat):CO:=⟨some n,none,.load (some k) (.t a)⟩
abbrev gq (n g:Nat) (b:Bool) (op:COp):CO:=⟨some n,some (g,b),op⟩
abbrev cl (f:Nat) (args:List Opd):COp:= .call false true (.k (.fn f [] [])) args
inductive C where
 | skip
 | reg (draw:Bool) (ops:List CO) (kill:List Nat)
 | regC (ops:List CO) (kill:List Nat) (chk:List (Nat×Nat))
 | seq (a b:C)
 | cond (c:Opd) (a b:C)
 | block (id:Nat) (c:C)
 | loop (live:List Nat) (c:C)
 | rangeFn (slot:Nat) (f:Opd) (params:List Nat) (assign body:C)
 | rangeM (pre:List CO) (it:Nat) (x:Opd) (out nxt pair:Nat) (live:List Nat) (ops:List CO) (kill:List Nat) (code:C)
 | exit (id:Nat)
 | scope (c:C)
 | fz (t:Nat) (c:C)
 | label
 | ret
 | bad
abbrev sr (ops:List CO) (kill:List Nat) (c:C):C:= .seq (.reg false ops kill) c
abbrev rg (ops:List CO) (kill:List Nat):C:= .reg false ops kill
inductive RV where
 | tmp (t:Nat)
 | cell (t:Nat) (n:Option Nat)
structure CF where
 results:List RV
 body:C
inductive Ex where
 | normal
 | exit (id:Nat)
 | ret
inductive ymy where
 | exit (id:Nat)
 | ret
abbrev Env:=List (Nat×V)
inductive Ob where
 | cells (t:Nat) (cs:List V)
 | row (wr:Bool) (t sz n:Nat) (xs:List D)
 | bag (t sz n:Nat) (xs:List D)
 | map (es:List (D×V))
 | iter (s:List UInt8) (pos:Nat)
 | loop (env:Env) (params:List Nat) (assign body:C) (lv:Nat) (busy:Bool) (over:Bool) (jump:Option ymy)
 | gone
abbrev Mem:=List (Id×Ob)
structure Cx where
 lv:Nat
 nx:Nat
def get:Env->Nat->V
 | [],_=> .undef
 | (u,v)::r,t=>if u=t then v else get r t
def put:Env->Nat->V->Env
 | [],t,v=>[(t,v)]
 | (u,x)::r,t,v=>if u=t then(t,v)::r else(u,x)::put r t v
def put? (e:Env) (t:Option Nat) (v:V):Env:=
 match t with
 | none=>e
 | some t=>put e t v
def look:Mem->Id->Option Ob
 | [],_=>none
 | (j,o)::r,i=>if j=i then some o else look r i
def upd:Mem->Id->Ob->Mem
 | [],i,o=>[(i,o)]
 | (j,x)::r,i,o=>if j=i then(i,o)::r else(j,x)::upd r i o
def zrf (m:Mem):List Id:=m.map (·.1)
def Opd.ev (e:Env):Opd->V
 | .t n=>get e n
 | .k v=>v
def evs (e:Env):List Opd->List V
 | []=>[]
 | x::r=>x.ev e::evs e r
def freeK (lv slot:Nat):Mem->Nat
 | []=>0
 | (j,_)::r=>if j.lv=lv/\j.slot=slot then max (j.k+1) (freeK lv slot r) else freeK lv slot r
def zcn (cx:Cx) (slot:Nat) (m:Mem):Id:=⟨cx.lv,slot,freeK cx.lv slot m⟩
mutual
def ids:V->List Id
 | .agg cs=>idsL cs
 | .tup vs=>idsL vs
 | .ref o _ _ _=>[o]
 | .ptr o _ _=>[o]
 | .fn _ a b=>idsL a++idsL b
 | .yld o=>[o]
 | .mp o=>[o]
 | .it o=>[o]
 | _=>[]
def idsL:List V->List Id
 | []=>[]
 | v::r=>ids v++idsL r
end
def yi3:Env->List Id
 | []=>[]
 | (_,v)::r=>ids v++yi3 r
def idsM:List (D×V)->List Id
 | []=>[]
 | (_,v)::r=>ids v++idsM r
def idsO:Ob->List Id
 | .cells _ cs=>idsL cs
 | .map es=>idsM es
 | .loop e _ _ _ _ _ _ _=>yi3 e
 | _=>[]
def idsAll:Mem->List Id
 | []=>[]
 | (_,o)::r=>idsO o++idsAll r
def gc1 (keep:List Id) (e:Env) (m:Mem):Mem:=m.filter fun p=>keep.elem p.1||(yi3 e).elem p.1||(idsAll m).elem p.1
def gc (keep:List Id) (e:Env) (m:Mem):Mem:=gc1 keep e (gc1 keep e (gc1 keep e m))
def only (live:List Nat) (e:Env):Env:=live.map fun t=>(t,get e t)
def zdb (kill:List Nat) (e:Env):Env:=e.filter fun p=> !kill.elem p.1
def zs4:List V->Option (List D)
 | []=>some []
 | .d x::r=>(zs4 r).map (x::·)
 | _::_=>none
def ycu (cs:List V):V:=
 match zs4 cs with
 | some ds=> .d (.agg ds)
 | none=> .agg cs
def asV:List D->List V
 | []=>[]
 | x::r=> .d x::asV r
def cellsOf:V->Option (List V)
 | .d (.agg cs)=>some (asV cs)
 | .agg cs=>some cs
 | .tup _=>none
 | .skip=>none
 | .undef=>none
 | v=>some [v]
def win {α:Type} (cs:List α) (off n:Nat):List α:=(cs.drop off).take n
def patch {α:Type} (cs:List α) (off:Nat) (xs:List α):List α:=cs.take off++xs++cs.drop (off+xs.length)
def zpp:V->V
 | .d (.fn f)=> .fn f [] []
 | v=>v
mutual
def freeze (any:Bool) (m:Mem):V->Option D
 | .d x=>some x
 | .cl n cs=>some (.list n cs)
 | .agg cs=>(freezeL any m cs).map .agg
 | .fn f [] []=>some (.fn f)
 | .ref o off len top=>
  match look m o with
  | some (.row wr _ sz n xs)=>
   if(wr=false\/any=true)/\n=top/\off+len<=n then
    some (.list len (if off=0/\len=n then xs else win xs (off*sz) (len*sz)))
   else none
  | _=>none
 | _=>none
def freezeL (any:Bool) (m:Mem):List V->Option (List D)
 | []=>some []
 | v::r=>
  match freeze any m v,freezeL any m r with
  | some x,some xs=>some (x::xs)
  | _,_=>none
end
def zql (m:Mem) (v:V):Option (List D):=
 match freeze false m v with
 | some (.agg cs)=>some cs
 | some x=>some [x]
 | none=>none
def zyu (m:Mem) (v:V):Option (Nat×List D):=
 match v with
 | .d (.list n cs)=>some (n,cs)
 | .d .nil=>some (0,[])
 | .ref o off len top=>
  match look m o with
  | some (.row _ _ sz n xs)=>
   if n=top/\off+len<=n then some (len,if off=0/\len=n then xs else win xs (off*sz) (len*sz)) else none
  | _=>none
 | _=>none
def asI:V->Option Int
 | .d (.int _ n)=>some n
 | _=>none
mutual
def eqD:D->D->Option Bool
 | .int k a,.int l b=>if k=l then some (decide (a=b)) else none
 | .bool a,.bool b=>some (a==b)
 | .str a,.str b=>some (a==b)
 | .agg a,.agg b=>eqL a b
 | _,_=>none
def eqL:List D->List D->Option Bool
 | [],[]=>some true
 | x::r,y::s=>
  match eqD x y,eqL r s with
  | some a,some b=>some (a&&b)
  | _,_=>none
 | _,_=>none
end
def zpr:List Bool->List D->Bool
 | [],[]=>true
 | true::l,.str _::r=>zpr l r
 | false::l,.int .. ::r=>zpr l r
 | _,_=>false
def zhp:KK->D->Bool
 | .int,.int .. =>true
 | .str,.str _=>true
 | .bool,.bool _=>true
 | .rc l,.agg cs=>zpr l cs
 | _,_=>false
def zch:List KK->List D->Bool
 | [],[]=>true
 | k::r,d::q=>zhp k d&&zch r q
 | _,_=>false
def eqV (ks:Option (List KK)) (x y:V):Option Bool:=
 match ks with
 | none=>
  match x,y with
  | .d (.bool a),.d (.bool b)=>some (a==b)
  | _,_=>none
 | some ks=>
  match x,y with
  | .d (.agg a),.d (.agg b)=>if zch ks a&&zch ks b then eqL a b else none
  | _,_=>none
def z07 (op:BinOp) (k:IntKind) (a b:Int):Option D:=
 match op with
 | .add=>some (.int k (k.wrap (a+b)))
 | .sub=>some (.int k (k.wrap (a-b)))
 | .mul=>some (.int k (k.wrap (a*b)))
 | .quo=>if b=0 then none else some (.int k (k.wrap (a.tdiv b)))
 | .rem=>if b=0 then none else some (.int k (a.tmod b))
 | .and=>some (.int k (k.wrap ((BitVec.ofInt k.bits a&&&BitVec.ofInt k.bits b).toNat)))
 | .or=>some (.int k (k.wrap ((BitVec.ofInt k.bits a|||BitVec.ofInt k.bits b).toNat)))
 | .xor=>some (.int k (k.wrap ((BitVec.ofInt k.bits a^^^BitVec.ofInt k.bits b).toNat)))
 | .andNot=>some (.int k (k.wrap ((BitVec.ofInt k.bits a&&&~~~ BitVec.ofInt k.bits b).toNat)))
 | .eql=>some (.bool (decide (a=b)))
 | .neq=>some (.bool (!decide (a=b)))
 | .lss=>some (.bool (decide (a<b)))
 | .leq=>some (.bool (decide (a<=b)))
 | .gtr=>some (.bool (decide (b<a)))
 | .geq=>some (.bool (decide (b<=a)))
 | _=>none
def ziw:List UInt8->List UInt8->Bool
 | _,[]=>false
 | [],_::_=>true
 | a::x,b::y=>a<b||(a==b&&ziw x y)
def ykn:Nat:=9223372036854775807
def z43 (op:BinOp) (a b:List UInt8):Option D:=
 match op with
 | .add=>if a.length+b.length<=ykn then some (.str (a++b)) else none
 | .eql=>some (.bool (a==b))
 | .neq=>some (.bool (!(a==b)))
 | .lss=>some (.bool (ziw a b))
 | .leq=>some (.bool (ziw a b||a==b))
 | .gtr=>some (.bool (!(ziw a b||a==b)))
 | .geq=>some (.bool (!ziw a b))
 | _=>none
def ysu (op:BinOp) (x y:V):Option D:=
 match x,y with
 | .d (.int k a),.d (.int l b)=>
  match op with
  | .shl=>if 0<=b then some (.int k (k.wrap (a*2^(min b.toNat k.bits)))) else none
  | .shr=>if 0<=b then some (.int k (a.fdiv (2^(min b.toNat k.bits)))) else none
  | _=>if k=l then z07 op k a b else none
 | .d (.str a),.d (.str b)=>z43 op a b
 | _,_=>none
def unD (op:UnOp) (x:V):Option D:=
 match op,x with
 | .not,.d (.bool b)=>some (.bool (!b))
 | .neg,.d (.int k n)=>some (.int k (k.wrap (0-n)))
 | _,_=>none
def zqa (mx:Bool):List V->Option D
 | []=>none
 | .d (.int k a)::r=>go k a r
 | _::_=>none
where
 go (k:IntKind) (a:Int):List V->Option D
  | []=>some (.int k a)
  | .d (.int _ b)::r=>go k (if mx then(if b>a then b else a) else(if b<a then b else a)) r
  | _::_=>none
def z9p (cs:List V):List (Nat×Nat×V)->Option (List V)
 | []=>some cs
 | (off,n,v)::r=>
  match cellsOf v with
  | some xs=>if xs.length=n/\off+n<=cs.length then z9p (patch cs off xs) r else none
  | none=>none
def zw3 (e:Env):List (Nat×Nat×Opd)->List (Nat×Nat×V)
 | []=>[]
 | (a,b,x)::r=>(a,b,x.ev e)::zw3 e r
def zrd (sz:Nat) (m:Mem):List V->Option (List D)
 | []=>some []
 | v::r=>
  match zql m v,zrd sz m r with
  | some x,some xs=>if x.length=sz then some (x++xs) else none
  | _,_=>none
@[irreducible] def yv2 (n:Nat) (d:D):List ybl:=List.replicate n (.z d)
def zbc (cx:Cx) (slot:Nat):List ybl->Mem->List V×Mem
 | [],m=>([],m)
 | .z x::r,m=>
  let p:=zbc cx slot r m
  (.d x::p.1,p.2)
 | .own s::r,m=>
  let i:=zcn cx slot m
  let p:=zbc cx slot r (upd m i (.row s.wr s.t s.sz 0 []))
  (.ref i 0 0 0::p.1,p.2)
def yhx (n:Option Nat) (cs:List V) (off:Nat):Option V:=
 match n with
 | none=>cs[off]?
 | some n=>if off+n<=cs.length then some (ycu (win cs off n)) else none
def z4l (n:Option Nat) (cs:List D) (off:Nat):Option V:=
 match n with
 | none=>(cs[off]?).map .d
 | some n=>if off+n<=cs.length then some (.d (.agg (win cs off n))) else none
def z2i (n:Option Nat) (m:Mem) (a:V):Option V:=
 match a with
 | .lptr cs off=>z4l n cs off
 | .ptr o off top=>
  match look m o with
  | some (.cells _ cs)=>yhx n cs off
  | some (.row _ _ _ l xs)=>if l=top then z4l n xs off else none
  | _=>none
 | _=>none
def zxd (n:Nat) (m:Mem) (a x:V):Option Mem:=
 match a with
 | .ptr o off top=>
  match look m o with
  | some (.cells t cs)=>
   match cellsOf x with
   | some xs=>if xs.length=n/\off+n<=cs.length then some (upd m o (.cells t (patch cs off xs))) else none
   | none=>none
  | some (.row true t sz l xs)=>
   match zql m x with
   | some ds=>if ds.length=n/\off+n<=xs.length/\l=top then some (upd m o (.row true t sz l (patch xs off ds))) else none
   | none=>none
  | _=>none
 | _=>none
def zcl (n:Nat) (lo hi:Option V):Option (Nat×Nat):=
 let h:Option Int:=match hi with
  | none=>some n
  | some v=>asI v
 let l:Option Int:=match lo with
  | none=>some 0
  | some v=>asI v
 match h,l with
 | some h,some l=>if 0<=h/\h<=n/\0<=l/\l<=h then some (l.toNat,h.toNat) else none
 | _,_=>none
def ztu (sz:Nat) (m:Mem) (x:V) (lo hi mx:Option V):Option V:=
 match x with
 | .d (.list n cs)=>
  match zcl n lo hi with
  | some (l,h)=>if mx.isNone\/(hi.isSome/\mx.bind asI=hi.bind asI) then some (.d (.list (h-l) (win cs (l*sz) ((h-l)*sz)))) else none
  | none=>none
 | .d .nil=>
  match zcl 0 lo hi with
  | some _=>if mx.isNone then some (.d .nil) else none
  | none=>none
 | .ref o off len top=>
  match look m o with
  | some (.row wr _ sz' n xs)=>
   if n=top/\off+len<=n/\sz'=sz then
    match zcl len lo hi with
    | some (l,h)=>
     if mx.isNone then
      if wr then some (.ref o (off+l) (h-l) top)
      else some (.d (.list (h-l) (win xs ((off+l)*sz) ((h-l)*sz))))
     else none
    | none=>none
   else none
  | _=>none
 | _=>none
def zlx (sz:Nat) (m:Mem) (x i:V):Option V:=
 match asI i with
 | none=>none
 | some i=>
  match x with
  | .d (.list n cs)=>if 0<=i/\i<n then some (.lptr cs (i.toNat*sz)) else none
  | .ref o off len top=>
   match look m o with
   | some (.row _ _ sz' n _)=>if 0<=i/\i<len/\n=top/\off+len<=n/\sz'=sz then some (.ptr o ((off+i.toNat)*sz) top) else none
   | _=>none
  | _=>none
def z8v (m:Mem):V->Bool
 | .ptr o _ top=>
  match look m o with
  | some (.cells ..)=>true
  | some (.row _ _ _ n _)=>n==top
  | _=>false
 | .lptr _ _=>true
 | _=>false
def yl4 (m:Mem) (v:V):Mem:=
 match v with
 | .ref o _ _ _=>
  match look m o with
  | some (.row true t sz n xs)=>upd m o (.row false t sz n xs)
  | _=>m
 | _=>m
def zf2 (off:Nat) (m:Mem) (v:V):Option V:=
 if z8v m v then
  match v with
  | .ptr o b top=>some (.ptr o (b+off) top)
  | .lptr cs b=>some (.lptr cs (b+off))
  | _=>none
 else none
def ydd (n:Option Nat) (x:V) (off:Nat):Option V:=
 match x with
 | .d (.agg cs)=>z4l n cs off
 | .agg cs=>yhx n cs off
 | _=>none
def yi4 (m:Mem) (k:Kd) (v:V):Option Nat:=
 match k with
 | .str=>
  match v with
  | .d (.str s)=>some s.length
  | _=>none
 | .slc=>
  match v with
  | .d (.list n _)=>some n
  | .d .nil=>some 0
  | .cl n _=>some n
  | .ref o _ len top=>
   match look m o with
   | some (.row _ _ _ n _)=>if n=top then some len else none
   | _=>none
  | _=>none
 | .map=>
  match v with
  | .mp o=>
   match look m o with
   | some (.map es)=>some es.length
   | _=>none
  | _=>none
 | .cap=>
  match v with
  | .d .nil=>some 0
  | _=>none
def zw9 (n by_:Nat):Bool:=decide (n*by_<=140737488355328)&&decide (n<=140737488355328)
def zn9 (cx:Cx) (slot:Nat) (r:zcp) (m:Mem) (kd:Option (Nat×List D)) (s:V):Option (V×Mem):=
 match kd with
 | none=>none
 | some (k,ds)=>
  match s with
  | .ref o off len top=>
   match look m o with
   | some (.row wr t sz n xs)=>
    if off=0/\len=n/\n=top/\t=r.t/\sz=r.sz/\ds.length=k*sz/\zw9 (n+k) r.by_ then
     some (.ref o 0 (n+k) (n+k),upd m o (.row wr t sz (n+k) (xs++ds)))
    else none
   | _=>none
  | .d .nil=>
   if k≠0/\ds.length=k*r.sz/\zw9 k r.by_ then
    let i:=zcn cx slot m
    some (.ref i 0 k k,upd m i (.row r.wr r.t r.sz k ds))
   else none
  | .cl n cs=>
   if k≠0/\ds.length=k*r.sz/\cs.length=n*r.sz/\zw9 (n+k) r.by_ then
    let i:=zcn cx slot m
    some (.ref i 0 (n+k) (n+k),upd m i (.row r.wr r.t r.sz (n+k) (cs++ds)))
   else none
  | _=>none
def ztz (cx:Cx) (slot:Nat) (r:zcp) (m:Mem) (s x:V):Option (V×Mem):=zn9 cx slot r m (zyu m x) s
def zu4 (r:zcp) (m:Mem) (s x:V):Option (V×Mem):=
 match zyu m x,s with
 | some (k,ds),.ref o off len top=>
  match look m o with
  | some (.row true t sz n xs)=>
   if n=top/\off+len+k<=n/\off+len<n/\t=r.t/\sz=r.sz/\ds.length=k*sz then
    some (.ref o off (len+k) top,upd m o (.row true t sz n (patch xs ((off+len)*sz) ds)))
   else none
  | _=>none
 | _,_=>none
def ykt (m:Mem):V->Option (Nat×Bool)
 | .d .nilp=>some (0,true)
 | .d .nilf=>some (4,true)
 | .d .nili=>some (1,true)
 | .d (.ifc true)=>some (1,false)
 | .d .nilm=>some (3,true)
 | .d (.fn _)=>some (4,false)
 | .d (.list (_+1) _)=>some (2,false)
 | .fn .. =>some (4,false)
 | .lptr .. =>some (0,false)
 | .ptr o off top=>if z8v m (.ptr o off top) then some (0,false) else none
 | .ref o off len top=>
  match look m o with
  | some (.row _ _ _ n _)=>if n=top/\off+len<=n/\len≠0 then some (2,false) else none
  | _=>none
 | _=>none
def yfg:List V->Bool
 | []=>true
 | .d _::r=>yfg r
 | _=>false
def yet (b:List UInt8):List D:=b.map fun c=> .int .u8 c.toNat
def zu6 (cx:Cx) (slot:Nat) (r:zcp) (m:Mem) (s x:V):Option (V×Mem):=
 match x,s with
 | .d (.str b),.ref .. =>zn9 cx slot r m (some (b.length,yet b)) s
 | _,_=>none
def ynv (sz:Nat) (m:Mem) (d s:V):Option (V×Mem):=
 match zyu m s,d with
 | some (k,ds),.ref o off len top=>
  match look m o with
  | some (.row true t sz' n xs)=>
   if n=top/\off+len<=n/\sz'=sz/\ds.length=k*sz then
    some (.d (.int .i64 (min k len:Nat)),upd m o (.row true t sz' n (patch xs (off*sz) (ds.take (min k len*sz)))))
   else none
  | _=>none
 | _,_=>none
def yex (zero:List D) (m:Mem) (x:V):Option Mem:=
 match x with
 | .d (.list 0 _)=>some m
 | .ref o off len top=>
  match look m o with
  | some (.row true t sz n xs)=>
   if n=top/\off+len<=n/\zero.length=sz then
    some (upd m o (.row true t sz n (patch xs (off*sz) (List.replicate len zero).flatten)))
   else none
  | _=>none
 | _=>none
def zf1 (key:D):List (D×V)->Option (Option V)
 | []=>some none
 | (q,v)::r=>
  match eqD key q with
  | some true=>some (some v)
  | some false=>zf1 key r
  | none=>none
def zqi (key:D) (x:V):List (D×V)->Option (List (D×V))
 | []=>some [(key,x)]
 | (q,v)::r=>
  match eqD key q with
  | some true=>some ((q,x)::r)
  | some false=>(zqi key x r).map ((q,v)::·)
  | none=>none
def yow (zero:D) (ok:Bool):Option V->V
 | some v=>if ok then .tup [v,.d (.bool true)] else v
 | none=>if ok then .tup [.d zero,.d (.bool false)] else .d zero
def zoq (kk:KK) (zero:D) (ok:Bool) (m:Mem) (x key:V):Option V:=
 match key with
 | .d key=>
  if zhp kk key then
   match x with
   | .mp o=>
    match look m o with
    | some (.map es)=>(zf1 key es).map (yow zero ok)
    | _=>none
   | .d .nilm=>some (yow zero ok none)
   | _=>none
  else none
 | _=>none
def zh2 (kk:KK) (m:Mem) (x key v:V):Option Mem:=
 match x,key with
 | .mp o,.d key=>
  match look m o with
  | some (.map es)=>
   if zhp kk key&&(cellsOf v).isSome then(zqi key v es).map fun es=>upd m o (.map es) else none
  | _=>none
 | _,_=>none
def yoo (m:Mem):V->Option (V×Mem)
 | .it o=>
  match look m o with
  | some (.iter s pos)=>
   if pos<s.length then
    let p:=Utf8.decode ⟨s.toArray⟩ pos
    some (.tup [.d (.bool true),.d (.int .i64 pos),.d (.int .i32 p.1)],upd m o (.iter s (pos+p.2)))
   else some (.tup [.d (.bool false)],m)
  | _=>none
 | _=>none
def subst (σ:List (Id×Id)) (i:Id):Id:=
 match σ with
 | []=>i
 | (a,b)::r=>if a=i then b else subst r i
mutual
def ren (σ:List (Id×Id)):V->V
 | .agg cs=> .agg (renL σ cs)
 | .tup vs=> .tup (renL σ vs)
 | .ref o a b c=> .ref (subst σ o) a b c
 | .ptr o a b=> .ptr (subst σ o) a b
 | .fn f a b=> .fn f (renL σ a) (renL σ b)
 | .yld o=> .yld (subst σ o)
 | .mp o=> .mp (subst σ o)
 | .it o=> .it (subst σ o)
 | v=>v
def renL (σ:List (Id×Id)):List V->List V
 | []=>[]
 | v::r=>ren σ v::renL σ r
end
def ydh (σ:List (Id×Id)):List (D×V)->List (D×V)
 | []=>[]
 | (a,v)::r=>(a,ren σ v)::ydh σ r
def renO (σ:List (Id×Id)):Ob->Ob
 | .cells t cs=> .cells t (renL σ cs)
 | .map es=> .map (ydh σ es)
 | o=>o
def reach (lv:Nat) (m:Mem):Nat->List Id->List Id->List Id
 | 0,_,done=>done
 | fuel+1,todo,done=>
  match todo with
  | []=>done
  | i::r=>
   if lv<=i.lv/\done.elem i=false then
    match look m i with
    | some o=>reach lv m fuel (idsO o++r) (done++[i])
    | none=>reach lv m fuel r done
   else reach lv m fuel r done
def number (cx:Cx) (slot k:Nat):List Id->List (Id×Id)
 | []=>[]
 | i::r=>(i,⟨cx.lv,slot,k⟩)::number cx slot (k+1) r
def moved (σ:List (Id×Id)) (m:Mem):List (Id×Id)->Mem
 | []=>[]
 | (a,b)::r=>
  match look m a with
  | some o=>(b,renO σ o)::moved σ m r
  | none=>moved σ m r
def isLoop:Ob->Bool
 | .loop .. =>true
 | _=>false
def onceB:List Id->Bool
 | []=>true
 | i::r=> !r.elem i&&onceB r
def within (is:List Id) (lo:Nat) (l:List Id):Bool:=l.all fun i=>is.elem i||decide (i.lv<lo)
def movable (is:List Id) (lo:Nat) (m:Mem):Bool:=
 onceB is&&is.all fun i=>
  match look m i with
  | some o=>within is lo (idsO o)&& !isLoop o&&decide (lo<=i.lv)
  | none=>false
def settle (cx:Cx) (slot lo:Nat) (old m:Mem) (v:V):Option (V×Mem):=
 let is:=reach lo m 64 (ids v) []
 let σ:=number cx slot (freeK cx.lv slot old) is
 if within is lo (ids v)&&movable is lo m then some (ren σ v,old++moved σ m σ) else none
def zdu (nx:Nat) (m:Mem):Mem:=m.filter fun p=>decide (p.1.lv<nx)
inductive Req where
 | call (lv:Nat) (f:Nat) (args:List V) (m:Mem)
 | round (nx:Nat) (o:Id) (args:List V) (m:Mem)
 | loop (cx:Cx) (live:List Nat) (keep:List Id) (body:C) (e:Env) (m:Mem)
inductive Res where
 | val (v:V) (m:Mem)
 | st (x:Ex) (e:Env) (m:Mem)
abbrev Oracle:=Req->Option Res
def zhn (F:Oracle) (cx:Cx) (f:V) (args:List V) (m:Mem):Option (V×Mem):=
 match f with
 | .fn f first caps=>
  match F (.call cx.nx f (first ++args++caps) m) with
  | some (.val v m')=>some (v,m')
  | _=>none
 | .yld o=>
  match F (.round cx.nx o args m) with
  | some (.val v m')=>some (v,m')
  | _=>none
 | _=>none
def thaw (m:Mem):V->Option V
 | .tup vs=>(freezeL true m vs).map fun xs=> .tup (asV xs)
 | v=>(freeze true m v).map .d
def ziy (nx:Nat) (l:List Id):Bool:=l.all fun i=>decide (i.lv<nx)
def znm (cx:Cx) (slot lo:Nat) (imm:Bool) (old m:Mem) (v:V):Option (V×Mem):=
 if imm then
  if(ids v).all fun i=>decide (lo<=i.lv) then(thaw m v).map fun v=>(v,old) else none
 else settle cx slot lo old m v
def zks (F:Oracle) (cx:Cx) (slot:Nat) (shared imm:Bool) (f:V) (args:List V) (m:Mem):Option (V×Mem):=
 if shared then
  if ziy cx.nx (zrf m) then
   match zhn F cx f args m with
   | some (v,m')=>if ziy cx.nx (idsAll (zdu cx.nx m')) then znm cx slot cx.nx imm (zdu cx.nx m') m' v else none
   | none=>none
  else none
 else
  match f with
  | .fn f first caps=>
   match freezeL false m (first ++args++caps) with
   | some ds=>
    match F (.call 0 f (asV ds) []) with
    | some (.val v m')=>znm cx slot 0 imm m m' v
    | _=>none
   | none=>none
  | _=>none
def z2x:D->Bool
 | .int .. =>true
 | .bool _=>true
 | .str _=>true
 | _=>false
def z19 (m:Mem):V->Bool
 | .d x=>z2x x
 | .ref o _ _ _=>
  match look m o with
  | some (.row _ _ _ _ xs)=>xs.all z2x
  | _=>false
 | _=>false
def z9x (m:Mem):V->Bool
 | .tup vs=>vs.all (z19 m)
 | v=>z19 m v
def z1s (F:Oracle) (f:V) (args:List V) (m:Mem):Option (V×Mem):=
 match f with
 | .fn f first caps=>
  match freezeL true m (first ++args++caps) with
  | some ds=>
   match F (.call 0 f (asV ds) []) with
   | some (.val v m')=>if z9x m' v=true then(thaw m' v).map fun v=>(v,m) else none
   | _=>none
  | none=>none
 | _=>none
mutual
def zi9:D->D->Bool
 | .int k a,.int l b=>decide (k=l)&&decide (a=b)
 | .bool a,.bool b=>a==b
 | .str a,.str b=>a==b
 | .nil,.nil=>true
 | .list n a,.list m b=>n==m&&zln a b
 | .agg a,.agg b=>zln a b
 | .nilp,.nilp=>true
 | .nilf,.nilf=>true
 | .nili,.nili=>true
 | .ifc a,.ifc b=>a==b
 | .nilm,.nilm=>true
 | .fn a,.fn b=>a==b
 | _,_=>false
def zln:List D->List D->Bool
 | [],[]=>true
 | x::r,y::q=>zi9 x y&&zln r q
 | _,_=>false
end
mutual
theorem zqh:∀(a b:D),zi9 a b=true->a=b
 | .int k a,b,h=>by cases b<;>simp [zi9] at h;obtain⟨rfl,rfl⟩:=h;rfl
 | .bool a,b,h=>by cases b<;>simp [zi9] at h;subst h;rfl
 | .str a,b,h=>by cases b<;>simp [zi9] at h;subst h;rfl
 | .nil,b,h=>by cases b<;>simp [zi9] at h;rfl
 | .list n a,b,h=>by
  cases b<;>simp [zi9] at h
  obtain⟨rfl,h⟩:=h
  rw [zfq a _ h]
 | .agg a,b,h=>by
  cases b<;>simp [zi9] at h
  rw [zfq a _ h]
 | .nilp,b,h=>by cases b<;>simp [zi9] at h;rfl
 | .nilf,b,h=>by cases b<;>simp [zi9] at h;rfl
 | .nili,b,h=>by cases b<;>simp [zi9] at h;rfl
 | .ifc a,b,h=>by cases b<;>simp [zi9] at h;subst h;rfl
 | .nilm,b,h=>by cases b<;>simp [zi9] at h;rfl
 | .fn a,b,h=>by cases b<;>simp [zi9] at h;subst h;rfl
theorem zfq:∀(a b:List D),zln a b=true->a=b
 | [],b,h=>by cases b<;>simp [zln] at h;rfl
 | x::r,b,h=>by
  cases b<;>simp [zln] at h
  rw [zqh x _ h.1,zfq r _ h.2]
end
theorem yjc:∀(as1 bs:List V) (xs:List D),zs4 as1=some xs->zs4 bs=some xs->as1=bs
 | [],bs,xs,h,k=>by
  simp only [zs4,Option.some.injEq] at h
  subst h
  cases bs with
  | nil=>rfl
  | cons b r=>cases b<;>simp [zs4] at k
 | a::r,bs,xs,h,k=>by
  cases a with
  | d x=>
   simp only [zs4,Option.map_eq_some_iff] at h
   obtain⟨ys,h1,rfl⟩:=h
   cases bs with
   | nil=>simp [zs4] at k
   | cons b q=>
    cases b with
    | d y=>
     simp only [zs4,Option.map_eq_some_iff,List.cons.injEq] at k
     obtain⟨zs,k1,rfl,rfl⟩:=k
     rw [yjc r q _ h1 k1]
    | _=>simp [zs4] at k
  | _=>simp [zs4] at h
mutual
def zsl:V->V->Bool
 | .d a,.d b=>zi9 a b
 | .agg a,.agg b=>zz0 a b
 | .tup a,.tup b=>zz0 a b
 | .ref o a b c,.ref o' a' b' c'=>decide (o=o')&&decide (a=a')&&decide (b=b')&&decide (c=c')
 | .ptr o a b,.ptr o' a' b'=>decide (o=o')&&decide (a=a')&&decide (b=b')
 | .lptr a n,.lptr b k=>zln a b&&decide (n=k)
 | .cl n a,.cl k b=>zln a b&&decide (n=k)
 | .fn f a b,.fn g c d=>decide (f=g)&&zz0 a c&&zz0 b d
 | .yld o,.yld o'=>decide (o=o')
 | .mp o,.mp o'=>decide (o=o')
 | .it o,.it o'=>decide (o=o')
 | .skip,.skip=>true
 | .undef,.undef=>true
 | _,_=>false
def zz0:List V->List V->Bool
 | [],[]=>true
 | x::r,y::q=>zsl x y&&zz0 r q
 | _,_=>false
end
mutual
theorem zya:∀(a b:V),zsl a b=true->a=b
 | .d a,b,h=>by cases b<;>simp [zsl] at h;rw [zqh _ _ h]
 | .agg a,b,h=>by cases b<;>simp [zsl] at h;rw [zns _ _ h]
 | .tup a,b,h=>by cases b<;>simp [zsl] at h;rw [zns _ _ h]
 | .ref o a b c,v,h=>by cases v<;>simp [zsl] at h;obtain⟨⟨⟨rfl,rfl⟩,rfl⟩,rfl⟩:=h;rfl
 | .ptr o a b,v,h=>by cases v<;>simp [zsl] at h;obtain⟨⟨rfl,rfl⟩,rfl⟩:=h;rfl
 | .lptr a n,v,h=>by cases v<;>simp [zsl] at h;obtain⟨h,rfl⟩:=h;rw [zfq _ _ h]
 | .cl n a,v,h=>by cases v<;>simp [zsl] at h;obtain⟨h,rfl⟩:=h;rw [zfq _ _ h]
 | .fn f a b,v,h=>by cases v<;>simp [zsl] at h;obtain⟨⟨rfl,h1⟩,h2⟩:=h;rw [zns _ _ h1,zns _ _ h2]
 | .yld o,v,h=>by cases v<;>simp [zsl] at h;subst h;rfl
 | .mp o,v,h=>by cases v<;>simp [zsl] at h;subst h;rfl
 | .it o,v,h=>by cases v<;>simp [zsl] at h;subst h;rfl
 | .skip,v,h=>by cases v<;>simp [zsl] at h;rfl
 | .undef,v,h=>by cases v<;>simp [zsl] at h;rfl
theorem zns:∀(a b:List V),zz0 a b=true->a=b
 | [],b,h=>by cases b<;>simp [zz0] at h;rfl
 | x::r,b,h=>by
  cases b<;>simp [zz0] at h
  rw [zya x _ h.1,zns r _ h.2]
end
def ysv:Env->Env->Bool
 | [],[]=>true
 | (t,v)::r,(u,w)::q=>decide (t=u)&&zsl v w&&ysv r q
 | _,_=>false
theorem yce:∀(a b:Env),ysv a b=true->a=b
 | [],b,h=>by cases b<;>simp [ysv] at h;rfl
 | (t,v)::r,b,h=>by
  cases b<;>simp [ysv] at h
  obtain⟨⟨rfl,h1⟩,h2⟩:=h
  rw [zya v _ h1,yce r _ h2]
def yre:List (D×V)->List (D×V)->Bool
 | [],[]=>true
 | (k,v)::r,(l,w)::q=>zi9 k l&&zsl v w&&yre r q
 | _,_=>false
theorem ycg:∀(a b:List (D×V)),yre a b=true->a=b
 | [],b,h=>by cases b<;>simp [yre] at h;rfl
 | (t,v)::r,b,h=>by
  cases b<;>simp [yre] at h
  obtain⟨⟨h0,h1⟩,h2⟩:=h
  rw [zqh t _ h0,zya v _ h1,ycg r _ h2]
def ydt:Ob->Ob->Bool
 | .cells t cs,.cells u ds=>decide (t=u)&&zz0 cs ds
 | .row a t sz n xs,.row b u sz' n' ys=>a==b&&decide (t=u)&&decide (sz=sz')&&decide (n=n')&&zln xs ys
 | .map es,.map fs=>yre es fs
 | _,_=>false
theorem ypl:∀(a b:Ob),ydt a b=true->a=b:=by
 intro a b h
 cases a<;>cases b<;>simp only [ydt,Bool.false_eq_true] at h
 ·simp only [Bool.and_eq_true,decide_eq_true_eq] at h
  rw [h.1,zns _ _ h.2]
 ·simp only [Bool.and_eq_true,decide_eq_true_eq,beq_iff_eq] at h
  obtain⟨⟨⟨⟨rfl,rfl⟩,rfl⟩,rfl⟩,h⟩:=h
  rw [zfq _ _ h]
 ·rw [ycg _ _ h]
def z90 (m1:Mem):Mem->Bool
 | []=>true
 | (i,o)::r=>(match look m1 i with
  | some o'=>ydt o o'
  | none=>false)&&z90 m1 r
def znc (σ:List (Id×Id)):List (Id×Id):=σ.map fun p=>(p.2,p.1)
def zwg (F:Oracle) (f:V) (args:List V) (m:Mem):Option V:=
 match f with
 | .fn f first caps=>
  let as1:=first ++args++caps
  let is:=reach 0 m 64 (idsL as1) []
  let σ:=number ⟨0,0⟩ 0 0 is
  if within is 0 (idsL as1)&&movable is 0 m then
   match F (.call 1 f (renL σ as1) (moved σ m σ)) with
   | some (.val v m1)=>if z90 m1 (moved σ m σ)&&(ids v).all (fun i=>(σ.map (·.2)).elem i) then some (ren (znc σ) v) else none
   | _=>none
  else none
 | _=>none
def okU:Ob->Bool
 | .cells .. =>true
 | .row .. =>true
 | .map _=>true
 | _=>false
def zt5 (σ:List (Id×Id)) (m1:Mem):List (Id×Id)->Mem->Option Mem
 | [],m=>some m
 | (a,b)::r,m=>
  match look m1 b with
  | some o=>if okU o&&(idsO o).all (fun i=>(σ.map (·.2)).elem i) then zt5 σ m1 r (upd m a (renO (znc σ) o)) else none
  | none=>none
def z0f (m:Mem):V->V
 | .ref o off len top=>
  match freeze false m (.ref o off len top) with
  | some d=> .d d
  | none=> .ref o off len top
 | v=>v
def zwh (F:Oracle) (imm:Bool) (f:V) (args:List V) (m:Mem):Option (V×Mem):=
 match f with
 | .fn f first caps=>
  let as1:=(first ++args++caps).map (z0f m)
  let is:=reach 0 m 64 (idsL as1) []
  let σ:=number ⟨0,0⟩ 0 0 is
  if within is 0 (idsL as1)&&movable is 0 m then
   match F (.call 1 f (renL σ as1) (moved σ m σ)) with
   | some (.val v m1)=>
    if imm then
     if ziy 1 (zrf (moved σ m σ))&&ziy 1 (idsAll (zdu 1 m1)) then
      match znm ⟨0,1⟩ 0 1 true (zdu 1 m1) m1 v with
      | some (v',m2)=>if(ids v').all (fun i=>(σ.map (·.2)).elem i) then(zt5 σ m2 σ m).map fun m'=>(ren (znc σ) v',m') else none
      | none=>none
     else none
    else if(ids v).all (fun i=>(σ.map (·.2)).elem i) then(zt5 σ m1 σ m).map fun m'=>(ren (znc σ) v,m') else none
   | _=>none
  else none
 | _=>none
def zto (sz:Nat):Nat->List D->List (List D)
 | 0,_=>[]
 | n+1,ds=>ds.take sz::zto sz n (ds.drop sz)
def z3o (x:List D):List (List D)->Option (List (List D))
 | []=>none
 | y::r=>if zln x y then some r else(z3o x r).map (y::·)
def yla:List (List D)->List (List D)->Bool
 | [],[]=>true
 | x::r,l=>
  match z3o x l with
  | some l'=>yla r l'
  | none=>false
 | [],_::_=>false
theorem zy7 (x:List D):∀(l r:List (List D)),z3o x l=some r->l.Perm (x::r)
 | [],r,h=>by simp [z3o] at h
 | y::q,r,h=>by
  simp only [z3o] at h
  split at h
  ·rename_i e
   obtain rfl:=Option.some.inj h
   rw [zfq _ _ e]
  ·simp only [Option.map_eq_some_iff] at h
   obtain⟨r',h1,rfl⟩:=h
   exact((zy7 x q r' h1).cons y).trans (.swap x y r')
theorem z56:∀(a b:List (List D)),yla a b=true->a.Perm b
 | [],b,h=>by cases b<;>simp [yla] at h;exact .refl _
 | x::r,b,h=>by
  simp only [yla] at h
  split at h
  ·rename_i l' e
   exact((z56 r l' h).cons x).trans (zy7 x b l' e).symm
  ·cases h
def yuz (sz n:Nat) (xs ys:List D):Bool:=decide (xs.length=n*sz)&&decide (ys.length=n*sz)&&yla (zto sz n xs) (zto sz n ys)
def yhg (o0:Option Ob):Ob->Ob
 | .loop e ps a b lv bu ov j=>
  match o0 with
  | some (.loop _ ps0 a0 b0 lv0 _ _ _)=> .loop e ps0 a0 b0 lv0 bu ov j
  | _=> .loop e ps a b lv bu ov j
 | o=>o
def yp3 (o0:Option Ob):Ob->Ob
 | .row true t sz n xs=>
  match o0 with
  | some (.row true _ _ n0 _)=>if n0=n then .row true t sz n xs else .bag t sz n xs
  | _=> .bag t sz n xs
 | o=>o
def yl2:Option ymy->Option ymy->Bool
 | none,none=>true
 | some (.exit a),some (.exit b)=>decide (a=b)
 | some .ret,some .ret=>true
 | _,_=>false
def ymn (k:D) (v:V):List (D×V)->Option (List (D×V))
 | []=>none
 | (l,w)::r=>if zi9 k l&&zsl v w then some r else(ymn k v r).map ((l,w)::·)
def z57:List (D×V)->List (D×V)->Bool
 | [],[]=>true
 | (k,v)::r,q=>
  match ymn k v q with
  | some q'=>z57 r q'
  | none=>false
 | [],_::_=>false
theorem z6j (k:D) (v:V):∀(l r:List (D×V)),ymn k v l=some r->l.Perm ((k,v)::r)
 | [],r,h=>by simp [ymn] at h
 | (y,w)::q,r,h=>by
  simp only [ymn] at h
  split at h
  ·rename_i e
   obtain rfl:=Option.some.inj h
   simp only [Bool.and_eq_true] at e
   rw [zqh _ _ e.1,zya _ _ e.2]
  ·simp only [Option.map_eq_some_iff] at h
   obtain⟨r',h1,rfl⟩:=h
   exact((z6j k v q r' h1).cons (y,w)).trans (.swap (k,v) (y,w) r')
theorem z2w:∀(a b:List (D×V)),z57 a b=true->a.Perm b
 | [],b,h=>by cases b<;>simp [z57] at h;exact .refl _
 | (k,v)::r,b,h=>by
  simp only [z57] at h
  split at h
  ·rename_i l' e
   exact((z2w r l' h).cons (k,v)).trans (z6j k v b l' e).symm
  ·cases h
def yjx:List (D×V)->Bool
 | []=>true
 | (k,_)::r=>(r.all fun b=>match eqD k b.1 with
   | some false=>true
   | _=>false)&&yjx r
def leO (o0:Option Ob):Ob->Ob->Bool
 | .cells t cs,.cells u ds=>decide (t=u)&&zz0 cs ds
 | .row w t sz n xs,.row w' t' sz' n' ys=>decide (w=w')&&decide (t=t')&&decide (sz=sz')&&decide (n=n')&&zln xs ys
 | .row true t sz n xs,.bag t' sz' n' ys=>decide (t=t')&&decide (sz=sz')&&decide (n=n')&&yuz sz n ys xs
 | .bag t sz n xs,.bag t' sz' n' ys=>decide (t=t')&&decide (sz=sz')&&decide (n=n')&&zln xs ys
 | .map es,.map fs=>yre es fs||(yjx fs&&z57 es fs)
 | .iter s p,.iter s' p'=>decide (s=s')&&decide (p=p')
 | .loop e _ _ _ _ bu ov j,.loop e' _ _ _ _ bu' ov' j'=>
  match o0 with
  | some (.loop ..)=>ysv e e'&&decide (bu=bu')&&decide (ov=ov')&&yl2 j j'
  | _=>false
 | .gone,.gone=>true
 | _,_=>false
def leM (m0:Mem):Mem->Mem->Bool
 | [],[]=>true
 | (i,o)::r,(j,o')::r'=>decide (i=j)&&leO (look m0 i) o o'&&leM m0 r r'
 | _,_=>false
def ztl (bag:Bool) (m0 m:Mem):Mem:=m.map fun p=>(p.1,if bag then yp3 (look m0 p.1) (yhg (look m0 p.1) p.2) else yhg (look m0 p.1) p.2)
def yt8:Ex->Ex->Bool
 | .normal,.normal=>true
 | .exit a,.exit b=>decide (a=b)
 | .ret,.ret=>true
 | _,_=>false
def z9y {α:Type} (x:α):List α->List (List α)
 | []=>[[x]]
 | y::r=>(x::y::r)::(z9y x r).map (y::·)
def ydf {α:Type}:List α->List (List α)
 | []=>[[]]
 | x::r=>(ydf r).flatMap (z9y x)
theorem z5r {α:Type} (x:α):∀(l q:List α),q∈z9y x l↔∃a b,l=a++b/\q=a++x::b
 | [],q=>by
  simp only [z9y,List.mem_singleton,List.nil_eq,List.append_eq_nil_iff]
  exact⟨fun h=>⟨[],[],⟨rfl,rfl⟩,h⟩,fun⟨a,b,⟨h1,h2⟩,h3⟩=>by subst h1;subst h2;exact h3⟩
 | y::r,q=>by
  simp only [z9y,List.mem_cons,List.mem_map,z5r x r]
  constructor
  ·rintro(rfl|⟨q',⟨a,b,rfl,rfl⟩,rfl⟩)
   ·exact⟨[],y::r,rfl,rfl⟩
   ·exact⟨y::a,b,rfl,rfl⟩
  ·rintro⟨a,b,h,rfl⟩
   cases a with
   | nil=>left;simp only [List.nil_append] at h;subst h;rfl
   | cons z a=>
    simp only [List.cons_append,List.cons.injEq] at h
    obtain⟨rfl,rfl⟩:=h
    exact .inr ⟨a++x::b,⟨a,b,rfl,rfl⟩,rfl⟩
theorem z2l {α:Type}:∀(l q:List α),q∈ydf l↔q.Perm l
 | [],q=>by simp [ydf]
 | x::r,q=>by
  simp only [ydf,List.mem_flatMap,z5r,z2l r]
  constructor
  ·rintro⟨p,hp,a,b,rfl,rfl⟩
   exact List.perm_middle.trans (hp.cons x)
  ·intro h
   have hx:x∈q:=h.symm.subset (by simp)
   obtain⟨a,b,rfl⟩:=List.append_of_mem hx
   exact⟨a++b,(List.perm_middle.symm.trans h).cons_inv,a,b,rfl,rfl⟩
def Ex.on (nxt:Nat):Ex->Bool
 | .normal=>true
 | .exit j=>Nat.beq j nxt
 | .ret=>false
def z74 (out:Nat) (live:List Nat) (p:Ex×Env×Mem):Ex×Env×Mem:=
 match p with
 | (.exit j,e,m)=>if j=out then(.normal,only live e,m) else(.exit j,e,m)
 | p=>p
def zm1 (it:Nat) (i:Id) (out nxt:Nat) (live:List Nat) (keep:List Id) (next:Env->Mem->Option (Ex×Env×Mem)) (p:Ex×Env×Mem):Option (Ex×Env×Mem):=
 match p.1.on nxt with
 | true=>if zsl (get p.2.1 it) (.it i) then next (only live p.2.1) (gc keep (only live p.2.1) p.2.2) else none
 | false=>some (z74 out live p)
def zop (body:Env->Mem->Option (Ex×Env×Mem)) (it:Nat) (i:Id) (out nxt pair:Nat) (live:List Nat) (keep:List Id):List (D×V)->Env->Mem->Option (Ex×Env×Mem)
 | [],e,m=>some (.normal,e,m)
 | (k,v)::r,e,m=>(body (put e pair (.tup [.d k,v])) m).bind (zm1 it i out nxt live keep (zop body it i out nxt pair live keep r))
def yss {α β:Type} (run:α->Option β):List α->Option (List β)
 | []=>some []
 | a::r=>(run a).bind fun b=>(yss run r).bind fun bs=>some (b::bs)
theorem z6p {α β:Type} {run:α->Option β}:∀ {l:List α} {rs:List β},yss run l=some rs->∀a∈l,∃b∈rs,run a=some b
 | [],_,_,a,ha=>by simp at ha
 | x::r,rs,h,a,ha=>by
  simp only [yss,Option.bind_eq_some_iff,Option.some.injEq] at h
  obtain⟨b,h1,bs,h2,rfl⟩:=h
  rcases List.mem_cons.1 ha with rfl|ha
  ·exact⟨b,by simp,h1⟩
  ·obtain⟨c,hc,h3⟩:=z6p h2 a ha
   exact⟨c,by simp [hc],h3⟩
def z5y (m0:Mem) (p:Ex×Env×Mem) (rs:List (Ex×Env×Mem)):Option (Ex×Env×Mem):=
 if rs.all fun q=>yt8 q.1 p.1&&ysv q.2.1 p.2.1&&leM m0 q.2.2 (ztl true m0 p.2.2) then some (p.1,p.2.1,ztl true m0 p.2.2) else none
def z01 (run:List (D×V)->Option (Ex×Env×Mem)) (m0:Mem) (es:List (D×V)):Option (Ex×Env×Mem):=
 (run es).bind fun p=>(yss run (ydf es)).bind (z5y m0 p)
def yeq (m:Mem) (p:V×Mem) (rs:List (V×Mem)):Option (V×Mem):=
 if rs.all fun q=>zsl q.1 p.1&&leM m q.2 (ztl false m p.2) then some (p.1,ztl false m p.2) else none
def zx8 (run:Mem->Option (V×Mem)) (m:Mem) (v:V):Option (V×Mem):=
 match v with
 | .ref o _ _ _=>
  match look m o with
  | some (.bag t sz n xs)=>
   if xs.length=n*sz then
    (run (upd m o (.row true t sz n xs))).bind fun p=>(yss (fun l=>run (upd m o (.row true t sz n l.flatten))) (ydf (zto sz n xs))).bind (yeq m p)
   else none
  | _=>run m
 | _=>run m
def yam (o:Id) (es:List (D×V)) (p:Ex×Env×Mem):Option (Ex×Env×Mem):=
 match look p.2.2 o with
 | some .gone=>some (p.1,p.2.1,upd p.2.2 o (.map es))
 | _=>none
def z23 (body:Env->Mem->Option (Ex×Env×Mem)) (cx:Cx) (it:Nat) (x:Opd) (out nxt pair:Nat) (live:List Nat) (e1:Env) (m1:Mem):Option (Ex×Env×Mem):=
 match x.ev e1 with
 | .mp o=>
  match look m1 o with
  | some (.map es)=>
   let i:=zcn cx it m1
   let m2:=upd (upd m1 i .gone) o .gone
   (z01 (fun p=>zop body it i out nxt pair live (zrf m2) p (only live (put e1 it (.it i))) m2) m2 es).bind (yam o es)
  | _=>none
 | _=>none
def yeo:V->List V->Bool
 | .ptr o _ _,vs=>vs.all fun v=>
  match v with
  | .ptr o' _ _=> !decide (o'=o)
  | _=>false
 | _,_=>false
def yen:V->List V->Bool
 | .mp o,vs=>vs.all fun v=>
  match v with
  | .ptr o' _ _=> !decide (o'=o)
  | _=>false
 | _,_=>false
def yl3:V->V->Bool
 | .d a,.d b=>zi9 a b
 | .ref o a b c,.ref o' a' b' c'=>decide (o=o')&&decide (a=a')&&decide (b=b')&&decide (c=c')
 | .ptr o a b,.ptr o' a' b'=>decide (o=o')&&decide (a=a')&&decide (b=b')
 | _,_=>false
theorem ypn (a b:V) (h:yl3 a b=true):a=b:=by
 unfold yl3 at h
 split at h
 ·rw [zqh _ _ h]
 ·simp only [Bool.and_eq_true,decide_eq_true_eq] at h
  obtain⟨⟨⟨rfl,rfl⟩,rfl⟩,rfl⟩:=h
  rfl
 ·simp only [Bool.and_eq_true,decide_eq_true_eq] at h
  obtain⟨⟨rfl,rfl⟩,rfl⟩:=h
  rfl
 ·cases h
def z3j:List V->List V->Bool
 | [],[]=>true
 | x::r,y::q=>yl3 x y&&z3j r q
 | _,_=>false
theorem yat:∀(a b:List V),z3j a b=true->a=b
 | [],b,h=>by cases b<;>simp [z3j] at h;rfl
 | x::r,b,h=>by
  cases b<;>simp [z3j] at h
  rw [ypn x _ h.1,yat r _ h.2]
def yof:Option Ob->Option Ob->Bool
 | some (.cells t cs),some (.cells u ds)=>decide (t=u)&&z3j cs ds
 | _,_=>false
def z7i (m m':Mem):List V->Bool
 | []=>true
 | .ptr o _ _::r=>yof (look m o) (look m' o)&&z7i m m' r
 | _::_=>false
def zca (F:Oracle) (cx:Cx) (slot:Nat) (e:Env) (m:Mem):COp->Option (V×Mem)
 | .mv x=>some (x.ev e,m)
 | .ownNil r=>
  let i:=zcn cx slot m
  some (.ref i 0 0 0,upd m i (.row r.wr r.t r.sz 0 []))
 | .pick c a b=>
  match c.ev e with
  | .d (.bool t)=>some (if t then a.ev e else b.ev e,m)
  | _=>none
 | .alloc t cs=>
  let p:=zbc cx slot cs m
  let i:=zcn cx slot p.2
  some (.ptr i 0 0,upd p.2 i (.cells t p.1))
 | .box t x=>
  match cellsOf (x.ev e) with
  | some cs=>
   let i:=zcn cx slot m
   some (.ptr i 0 0,upd m i (.cells t cs))
  | none=>none
 | .build zero parts=>
  let p:=zbc cx slot zero m
  (z9p p.1 (zw3 e parts)).map fun cs=>(ycu cs,p.2)
 | .mkList sz n parts=>(zrd sz m (evs e parts)).map fun ds=>(.d (.list n ds),m)
 | .mkListD sz n parts=>if yfg (evs e parts) then(zrd sz [] (evs e parts)).map fun ds=>(.d (.list n ds),m) else none
 | .mkRow r n parts=>
  (zrd r.sz m (evs e parts)).map fun ds=>
   let i:=zcn cx slot m
   (.ref i 0 n n,upd m i (.row r.wr r.t r.sz n ds))
 | .load n a=>(z2i n m (a.ev e)).map fun v=>(v,m)
 | .store n a x=>(zxd n m (a.ev e) (x.ev e)).map fun m=>(.skip,m)
 | .nilCheck x=>
  if z8v m (x.ev e) then some (x.ev e,m)
  else
   match zpp (x.ev e) with
   | .fn f a b=>some (.fn f a b,m)
   | _=>none
 | .bin op x y=>(ysu op (x.ev e) (y.ev e)).map fun v=>(.d v,m)
 | .eqv ks neg x y=>(eqV ks (x.ev e) (y.ev e)).map fun r=>(.d (.bool (if neg then !r else r)),m)
 | .un op x=>(unD op (x.ev e)).map fun v=>(.d v,m)
 | .conv k x=>
  match x.ev e with
  | .d (.int _ n)=>some (.d (.int k (k.wrap n)),m)
  | _=>none
 | .mkFunc f first caps=>some (.fn f (evs e first) (evs e caps),m)
 | .makeRow r zero n=>
  match n.ev e with
  | .d (.int _ n)=>
   if 0<=n/\zero.length=r.sz/\zw9 n.toNat r.by_ then
    let i:=zcn cx slot m
    some (.ref i 0 n.toNat n.toNat,upd m i (.row r.wr r.t r.sz n.toNat (List.replicate n.toNat zero).flatten))
   else none
  | _=>none
 | .sliceS x lo hi=>
  match x.ev e with
  | .d (.str s)=>
   match zcl s.length (lo.map (·.ev e)) (hi.map (·.ev e)) with
   | some (l,h)=>some (.d (.str (win s l (h-l))),m)
   | none=>none
  | _=>none
 | .slice sz x lo hi mx=>(ztu sz m (x.ev e) (lo.map (·.ev e)) (hi.map (·.ev e)) (mx.map (·.ev e))).map fun v=>(v,m)
 | .fieldAddr off x=>(zf2 off m (x.ev e)).map fun v=>(v,m)
 | .field off n x=>(ydd n (x.ev e) off).map fun v=>(v,m)
 | .idxAddr sz x i=>(zlx sz m (x.ev e) (i.ev e)).map fun v=>(v,m)
 | .idxAddrA len sz x i=>
  match asI (i.ev e) with
  | some i=>if 0<=i/\i<len then(zf2 (i.toNat*sz) m (x.ev e)).map fun v=>(v,m) else none
  | none=>none
 | .idxS x i=>
  match x.ev e,asI (i.ev e) with
  | .d (.str s),some i=>if 0<=i then(s[i.toNat]?).map fun b=>(.d (.int .u8 b.toNat),m) else none
  | _,_=>none
 | .idxA len sz n x i=>
  match asI (i.ev e) with
  | some i=>if 0<=i/\i<len then(ydd n (x.ev e) (i.toNat*sz)).map fun v=>(v,m) else none
  | none=>none
 | .mkMap=>
  let i:=zcn cx slot m
  some (.mp i,upd m i (.map []))
 | .lookup kk zero ok x key=>(zoq kk zero ok m (x.ev e) (key.ev e)).map fun v=>(v,m)
 | .mapSet kk x key v=>(zh2 kk m (x.ev e) (key.ev e) (v.ev e)).map fun m=>(.skip,m)
 | .rangeS x=>
  match x.ev e with
  | .d (.str s)=>
   let i:=zcn cx slot m
   some (.it i,upd m i (.iter s 0))
  | _=>none
 | .nextS x=>yoo m (x.ev e)
 | .extract x i=>
  match x.ev e with
  | .tup vs=>(vs[i]?).map fun v=>(v,m)
  | _=>none
 | .call shared imm f args=>zks F cx slot shared imm (zpp (f.ev e)) (evs e args) m
 | .storeR n a x rs=>if yeo (a.ev e) (rs.map (get e))=true then(zxd n m (a.ev e) (x.ev e)).map fun m=>(.skip,m) else none
 | .callR imm f args rs=>
  match zks F cx slot true imm (zpp (f.ev e)) (evs e args) m with
  | some (v,m')=>if z7i m m' (rs.map (get e))=true then some (v,m') else none
  | none=>none
 | .bad=>none
 | .appendZ r zero s n=>
  match s.ev e,n.ev e with
  | .d .nil,.d (.int .i64 n)=>
   if 0<n/\zero.length=r.sz/\zw9 n.toNat r.by_ then
    let i:=zcn cx slot m
    some (.ref i 0 n.toNat n.toNat,upd m i (.row r.wr r.t r.sz n.toNat (List.replicate n.toNat zero).flatten))
   else none
  | _,_=>none
 | .callB imm f args b=>zx8 (fun m=>zks F cx slot true imm (zpp (f.ev e)) (evs e args) m) m (get e b)
 | .mapSetR kk x key v rs=>if yen (x.ev e) (rs.map (get e))=true then(zh2 kk m (x.ev e) (key.ev e) (v.ev e)).map fun m=>(.skip,m) else none
 | .appendIn r s x=>zu4 r m (s.ev e) (x.ev e)
 | .callD f args=>
  match zpp (f.ev e) with
  | .fn g [] []=>if yfg (evs e args) then zks F cx slot false true (.fn g [] []) (evs e args) m else none
  | _=>none
 | .callK imm f args=>
  match zks F cx slot true imm (zpp (f.ev e)) (evs e args) m with
  | some (v,m')=>if leM m m' m=true then some (v,m) else none
  | none=>none
 | .callQ f args=>(zwg F (zpp (f.ev e)) (evs e args) m).map fun v=>(v,m)
 | .callU imm f args=>zwh F imm (zpp (f.ev e)) (evs e args) m
 | .callZ f args=>z1s F (zpp (f.ev e)) (evs e args) m
 | .callN f args=>
  match zpp (f.ev e) with
  | .fn g [] []=>if yfg (evs e args) then zks F cx slot false false (.fn g [] []) (evs e args) m else none
  | _=>none
 | .nilEq kd neg x=>
  match ykt m (x.ev e) with
  | some (k,b)=>if k=kd then some (.d (.bool (if neg then !b else b)),m) else none
  | none=>none
 | .loadD n a=>
  match a.ev e with
  | .lptr cs off=>(z4l n cs off).map fun v=>(v,m)
  | _=>none
 | .sealMv x=>some (x.ev e,yl4 m (x.ev e))
 | .sliceC _ x hi mx=>
  match x.ev e,asI (hi.ev e),asI (mx.ev e) with
  | .d (.list n cs),some h,some k=>if h=n/\k=n then some (.cl n cs,m) else none
  | _,_,_=>none
 | .fieldAddrD off x=>
  match x.ev e with
  | .lptr cs b=>some (.lptr cs (b+off),m)
  | _=>none
 | .idxAddrD sz x i=>
  match x.ev e,asI (i.ev e) with
  | .d (.list n cs),some i=>if 0<=i/\i<n then some (.lptr cs (i.toNat*sz),m) else none
  | _,_=>none
 | .len k x=>(yi4 m k (x.ev e)).map fun(n:Nat)=>(V.d (.int .i64 (n:Int)),m)
 | .append r s x=>ztz cx slot r m (s.ev e) (x.ev e)
 | .appendS r s x=>zu6 cx slot r m (s.ev e) (x.ev e)
 | .appendF r s x=>
  match ztz cx slot r m (s.ev e) (x.ev e) with
  | some (v,m')=>(freeze false m' v).map fun d=>(.d d,m')
  | none=>none
 | .strB x=>
  match x.ev e with
  | .d (.list 1 [.int .u8 n])=>some (.d (.str [UInt8.ofNat n.toNat]),m)
  | _=>none
 | .copy sz a b=>ynv sz m (a.ev e) (b.ev e)
 | .minmax mx args=>(zqa mx (evs e args)).map fun v=>(.d v,m)
 | .clear zero x=>(yex zero m (x.ev e)).map fun m=>(.skip,m)
def zdr (F:Oracle) (cx:Cx) (e:Env) (m:Mem) (o:CO):Option (V×Mem):=
 match o.guard with
 | none=>zca F cx (o.dst.getD 0) e m o.op
 | some (t,want)=>
  match get e t with
  | .d (.bool b)=>if b=want then zca F cx (o.dst.getD 0) e m o.op else some (.skip,m)
  | .skip=>some (.skip,m)
  | _=>none
def zh7 (F:Oracle) (cx:Cx):List CO->Env->Mem->Option (Env×Mem)
 | [],e,m=>some (e,m)
 | o::r,e,m=>
  match zdr F cx e m o with
  | some (v,m')=>zh7 F cx r (put? e o.dst v) m'
  | none=>none
def yrc (e:Env):List (Nat×Nat)->Bool
 | []=>true
 | (a,b)::r=>((ids (get e a)).all fun i=> !(ids (get e b)).elem i)&&yrc e r
def ymy.ex:ymy->Ex
 | .exit id=> .exit id
 | .ret=> .ret
def evC (F:Oracle) (cx:Cx):C->Env->Mem->Option (Ex×Env×Mem)
 | .skip,e,m=>some (.normal,e,m)
 | .label,e,m=>some (.normal,e,m)
 | .reg _ ops kill,e,m=>(zh7 F cx ops e m).map fun p=>(.normal,zdb kill p.1,p.2)
 | .regC ops kill chk,e,m=>(zh7 F cx ops e m).bind fun p=>if yrc p.1 chk then some (.normal,zdb kill p.1,p.2) else none
 | .seq a b,e,m=>
  match evC F cx a e m with
  | some (.normal,e',m')=>evC F cx b e' m'
  | r=>r
 | .cond c a b,e,m=>
  match c.ev e with
  | .d (.bool t)=>if t then evC F cx a e m else evC F cx b e m
  | _=>none
 | .block id c,e,m=>
  match evC F cx c e m with
  | some (.exit j,e',m')=>if j=id then some (.normal,e',m') else some (.exit j,e',m')
  | r=>r
 | .loop live c,e,m=>
  match F (.loop cx live (zrf m) c (only live e) (gc (zrf m) (only live e) m)) with
  | some (.st x e' m')=>some (x,e',m')
  | _=>none
 | .exit id,e,m=>some (.exit id,e,m)
 | .ret,e,m=>some (.ret,e,m)
 | .bad,_,_=>none
 | .scope c,e,m=>evC F cx c e m
 | .fz t c,e,m=>
  match freeze false m (get e t) with
  | some d=>evC F cx c (put e t (.d d)) m
  | none=>none
 | .rangeM pre it x out nxt pair live ops kill code,e,m=>
  (zh7 F cx pre e m).bind fun p=>z23 (fun e m=>(zh7 F cx ops e m).bind fun q=>evC F cx code (zdb kill q.1) q.2) cx it x out nxt pair live p.1 p.2
 | .rangeFn slot f ps a b,e,m=>
  let i:=zcn cx slot m
  let m1:=upd m i (.loop e ps a b cx.lv false false none)
  if ziy cx.nx (zrf m1) then
   match f.ev e with
   | .fn g first caps=>
    match F (.call cx.nx g (first ++[.yld i]++caps) m1) with
    | some (.val _ m')=>
     match look m' i with
     | some (.loop _ _ _ _ _ false _ j)=>
      if ziy cx.nx (idsAll (zdu cx.nx m')) then
       let m2:=upd (zdu cx.nx m') i .gone
       match j with
       | none=>some (.normal,e,m2)
       | some j=>some (j.ex,e,m2)
      else none
     | _=>none
    | _=>none
   | _=>none
  else none
def yso:List Nat->List V->Env->Env
 | t::r,v::s,e=>yso r s (put e t v)
 | _,_,e=>e
def params (i:Nat):List V->Env
 | []=>[]
 | v::r=>(i,v)::params (i+1) r
def ytx (m:Mem) (e:Env):RV->Option V
 | .tmp t=>some (get e t)
 | .cell t n=>z2i n m (get e t)
def z4n (m:Mem) (e:Env):List RV->Option (List V)
 | []=>some []
 | x::r=>
  match ytx m e x,z4n m e r with
  | some v,some vs=>some (v::vs)
  | _,_=>none
def results (m:Mem) (e:Env) (rs:List RV):Option V:=
 match rs with
 | [r]=>ytx m e r
 | rs=>(z4n m e rs).map .tup
abbrev Extern:=Nat->Option (List V->Mem->Option (V×Mem))
def step (Γ:Nat->Option CF) (X:Extern) (F:Oracle):Req->Option Res
 | .call lv f args m=>
  match X f with
  | some x=>(x args m).map fun p=> .val p.1 p.2
  | none=>
   match Γ f with
   | some cf=>
    match evC F ⟨lv,lv+1⟩ cf.body (params 0 args) m with
    | some (.normal,e,m')=>(results m' e cf.results).map fun v=> .val v m'
    | some (.ret,e,m')=>(results m' e cf.results).map fun v=> .val v m'
    | _=>none
   | none=>none
 | .round nx o args m=>
  match look m o with
  | some (.loop e ps a b lv false false _)=>
   if ps.length=args.length then
    match evC F ⟨lv,nx⟩ a (yso ps args e) m with
    | some (.normal,e1,m1)=>
     match look m1 o with
     | some (.loop e' ps' a' b' lv' false false j')=>
      match evC F ⟨lv,nx⟩ b e1 (upd m1 o (.loop e' ps' a' b' lv' true false j')) with
      | some (x,_,m2)=>
       match look m2 o with
       | some (.loop e' ps' a' b' lv' true false _)=>
        match x with
        | .normal=>some (.val (.d (.bool true)) (gc (zrf m) [] (upd m2 o (.loop e' ps' a' b' lv' false false none))))
        | .exit id=>some (.val (.d (.bool false)) (upd m2 o (.loop e' ps' a' b' lv' false true (some (.exit id)))))
        | .ret=>some (.val (.d (.bool false)) (upd m2 o (.loop e' ps' a' b' lv' false true (some .ret))))
       | _=>none
      | none=>none
     | _=>none
    | _=>none
   else none
  | _=>none
 | .loop cx live keep body e m=>
  match evC F cx body e m with
  | some (.normal,e',m')=>F (.loop cx live keep body (only live e') (gc keep (only live e') m'))
  | some (x,e',m')=>some (.st x e' m')
  | none=>none
abbrev Globs:=List (Nat×List D)
def findC {α:Type} (f:Nat):List (Nat×α)->Option α
 | []=>none
 | (i,c)::r=>match Nat.beq i f with
  | true=>some c
  | false=>findC f r
theorem findC_mem {α:Type} (f:Nat) (c:α):∀l:List (Nat×α),findC f l=some c->(f,c)∈l
 | [],h=>by simp [findC] at h
 | (i,d)::r,h=>by
  simp only [findC] at h
  split at h
  ·rename_i e
   obtain rfl:=Option.some.inj h
   rw [Nat.eq_of_beq_eq_true e];simp
  ·exact List.mem_cons_of_mem _ (findC_mem f c r h)
def iter (Γ:Nat->Option CF) (X:Extern):Nat->Oracle
 | 0=>fun _=>none
 | n+1=>step Γ X (iter Γ X n)
end Go.Evl
