
/-
 The evaluator of Go functions on data: its values, its own yps syntax, and its meaning (no World, no tape). Nothing here speaks of a program.
-/
import GoSem.Core.Code
import GoSem.Core.View
import GoSem.Core.Utf8
namespace Go.Evl
inductive D where
 |int(k:IntKind)(n:Int)
 |bool(b:Bool)
 |str(s:List UInt8)
 |nil
 |list(n:Nat)(cs:List D)
 |agg(cs:List D)
 |nilp
 |nilf
 |nili
 |ifc(b:Bool)
 |nilm
 |fn(f:Nat)
structure Id where
 lv:Nat
 slot:Nat
 k:Nat
 deriving DecidableEq
inductive V where
 |d(x:D)
 |agg(cs:List V)
 |tup(vs:List V)
 |ref(o:Id)(off len top:Nat)
 |ptr(o:Id)(off top:Nat)
 |lptr(cs:List D)(off:Nat)
 |cl(n:Nat)(cs:List D)
 |fn(f:Nat)(first caps:List V)
 |yld(o:Id)
 |mp(o:Id)
 |it(o:Id)
 |skip
 |undef
inductive Opd where
 |t(n:Nat)
 |k(v:V)
structure zd6 where
 wr:Bool
 t:Nat
 sz:Nat
 by_:Nat
inductive Kd where
 |str
 |slc
 |map
 |cap
inductive KK where
 |int
 |str
 |bool
 |rc(l:List Bool)
 deriving DecidableEq
inductive yen where
 |z(x:D)
 |own(r:zd6)
inductive COp where
 |mv(x:Opd)
 |ownNil(r:zd6)
 |pick(c a b:Opd)
 |alloc(t:Nat)(cs:List yen)
 |box(t:Nat)(x:Opd)
 |build(zero:List yen)(parts:List (Nat×Nat×Opd))
 |mkList(sz n:Nat)(parts:List Opd)
 |mkListD(sz n:Nat)(parts:List Opd)
 |mkRow(r:zd6)(n:Nat)(parts:List Opd)
 |load(n:Option Nat)(a:Opd)
 |store(n:Nat)(a x:Opd)
 |nilCheck(x:Opd)
 |bin(op:BinOp)(x y:Opd)
 |eqv(ks:Option (List KK))(neg:Bool)(x y:Opd)
 |un(op:UnOp)(x:Opd)
 |conv(k:IntKind)(x:Opd)
 |mkFunc(f:Nat)(first caps:List Opd)
 |sliceS(x:Opd)(lo hi:Option Opd)
 |slice(sz:Nat)(x:Opd)(lo hi mx:Option Opd)
 |fieldAddr(off:Nat)(x:Opd)
 |field(off:Nat)(n:Option Nat)(x:Opd)
 |idxAddr(sz:Nat)(x i:Opd)
 |idxAddrA(len sz:Nat)(x i:Opd)
 |idxS(x i:Opd)
 |idxA(len sz:Nat)(n:Option Nat)(x i:Opd)
 |mkMap
 |lookup(kk:KK)(zero:D)(ok:Bool)(m key:Opd)
 |mapSet(kk:KK)(m key x:Opd)
 |rangeS(x:Opd)
 |nextS(x:Opd)
 |extract(x:Opd)(i:Nat)
 |call(shared:Bool)(imm:Bool)(f:Opd)(args:List Opd)
 |storeR(n:Nat)(a x:Opd)(rs:List Nat)
 |callR(imm:Bool)(f:Opd)(args:List Opd)(rs:List Nat)
 |callB(imm:Bool)(f:Opd)(args:List Opd)(b:Nat)
 |bad
 |mapSetR(kk:KK)(m key x:Opd)(rs:List Nat)
 |appendIn(r:zd6)(s x:Opd)
 |appendZ(r:zd6)(zero:List D)(s n:Opd)
 |loadD(n:Option Nat)(a:Opd)
 |nilEq(kd:Nat)(neg:Bool)(x:Opd)
 |callD(f:Opd)(args:List Opd)
 |callN(f:Opd)(args:List Opd)
 |callK(imm:Bool)(f:Opd)(args:List Opd)
 |callQ(f:Opd)(args:List Opd)
 |callU(imm:Bool)(f:Opd)(args:List Opd)
 |callZ(f:Opd)(args:List Opd)
 |idxAddrD(sz:Nat)(x i:Opd)
 |fieldAddrD(off:Nat)(x:Opd)
 |sealMv(x:Opd)
 |sliceC(sz:Nat)(x hi mx:Opd)
 |len(k:Kd)(x:Opd)
 |append(r:zd6)(s x:Opd)
 |appendS(r:zd6)(s x:Opd)
 |appendF(r:zd6)(s x:Opd)
 |strB(x:Opd)
 |minmax(mx:Bool)(args:List Opd)
 |clear(zero:List D)(x:Opd)
structure CO where
 dst:Option Nat
 guard:Option (Nat×Bool)
 op:COp
abbrev kq(n:Int):Opd:=.k (.d (.int .i64 n))
abbrev tq(n:Nat)(op:COp):CO:=⟨some n,none,op⟩
abbrev ld(n a:Nat):CO:=⟨some n,none,.load none (.t a)⟩
abbrev fa(n off a:Nat):CO:=⟨some n,none,.fieldAddr off (.t a)⟩
abbrev mq(n m:Nat):CO:=⟨some n,none,.mv (.t m)⟩
abbrev xq(n m i:Nat):CO:=⟨some n,none,.extract (.t m) i⟩
abbrev lq(n k a:Nat):CO:=⟨some n,none,.load (some k) (.t a)⟩
abbrev gq(n g:Nat)(b:Bool)(op:COp):CO:=⟨some n,some (g,b),op⟩
abbrev cl(f:Nat)(args:List Opd):COp:=.call false true (.k (.fn f [] [])) args
inductive C where
 |skip
 |reg(draw:Bool)(ops:List CO)(kill:List Nat)
 |regC(ops:List CO)(kill:List Nat)(chk:List (Nat×Nat))
 |seq(a b:C)
 |cond(c:Opd)(a b:C)
 |block(id:Nat)(c:C)
 |loop(live:List Nat)(c:C)
 |rangeFn(slot:Nat)(f:Opd)(params:List Nat)(assign body:C)
 |rangeM(pre:List CO)(it:Nat)(x:Opd)(out nxt pair:Nat)(live:List Nat)(ops:List CO)(kill:List Nat)(code:C)
 |exit(id:Nat)
 |scope(c:C)
 |fz(t:Nat)(c:C)
 |label
 |ret
 |bad
abbrev sr(ops:List CO)(kill:List Nat)(c:C):C:=.seq (.reg false ops kill) c
abbrev rg(ops:List CO)(kill:List Nat):C:=.reg false ops kill
inductive RV where
 |tmp(t:Nat)
 |cell(t:Nat)(n:Option Nat)
structure CF where
 results:List RV
 body:C
inductive Ex where
 |normal
 |exit(id:Nat)
 |ret
inductive ymn where
 |exit(id:Nat)
 |ret
abbrev Env:=List (Nat×V)
inductive Ob where
 |cells(t:Nat)(cs:List V)
 |row(wr:Bool)(t sz n:Nat)(xs:List D)
 |bag(t sz n:Nat)(xs:List D)
 |map(es:List (D×V))
 |iter(s:List UInt8)(pos:Nat)
 |loop(env:Env)(params:List Nat)(assign body:C)(lv:Nat)(busy:Bool)(over:Bool)(jump:Option ymn)
 |gone
abbrev Mem:=List (Id×Ob)
structure Cx where
 lv:Nat
 nx:Nat
def get:Env->Nat->V
 |[],_=>.undef
 |(u,v)::r,t=>if u=t then v else get r t
def put:Env->Nat->V->Env
 |[],t,v=>[(t,v)]
 |(u,x)::r,t,v=>if u=t then(t,v)::r else(u,x)::put r t v
def put?(e:Env)(t:Option Nat)(v:V):Env:=
 match t with
 |none=>e
 |some t=>put e t v
def look:Mem->Id->Option Ob
 |[],_=>none
 |(j,o)::r,i=>if j=i then some o else look r i
def upd:Mem->Id->Ob->Mem
 |[],i,o=>[(i,o)]
 |(j,x)::r,i,o=>if j=i then(i,o)::r else(j,x)::upd r i o
def zoi(m:Mem):List Id:=m.map (·.1)
def Opd.ev(e:Env):Opd->V
 |.t n=>get e n
 |.k v=>v
def evs(e:Env):List Opd->List V
 |[]=>[]
 |x::r=>x.ev e::evs e r
def freeK(lv slot:Nat):Mem->Nat
 |[]=>0
 |(j,_)::r=>if j.lv=lv/\j.slot=slot then max (j.k+1) (freeK lv slot r)else freeK lv slot r
def newId(cx:Cx)(slot:Nat)(m:Mem):Id:=⟨cx.lv,slot,freeK cx.lv slot m⟩
mutual
def ids:V->List Id
 |.agg cs=>zev cs
 |.tup vs=>zev vs
 |.ref o _ _ _=>[o]
 |.ptr o _ _=>[o]
 |.fn _ a b=>zev a++zev b
 |.yld o=>[o]
 |.mp o=>[o]
 |.it o=>[o]
 |_=>[]
def zev:List V->List Id
 |[]=>[]
 |v::r=>ids v++zev r
end
def ykz:Env->List Id
 |[]=>[]
 |(_,v)::r=>ids v++ykz r
def idsM:List (D×V)->List Id
 |[]=>[]
 |(_,v)::r=>ids v++idsM r
def idsO:Ob->List Id
 |.cells _ cs=>zev cs
 |.map es=>idsM es
 |.loop e _ _ _ _ _ _ _=>ykz e
 |_=>[]
def idsAll:Mem->List Id
 |[]=>[]
 |(_,o)::r=>idsO o++idsAll r
def gc1(keep:List Id)(e:Env)(m:Mem):Mem:=m.filter λp=>keep.elem p.1||(ykz e).elem p.1||(idsAll m).elem p.1
def gc(keep:List Id)(e:Env)(m:Mem):Mem:=gc1 keep e (gc1 keep e (gc1 keep e m))
def only(live:List Nat)(e:Env):Env:=live.map λt=>(t,get e t)
def zdk(kill:List Nat)(e:Env):Env:=e.filter λp=>!kill.elem p.1
def zvj:List V->Option (List D)
 |[]=>some []
 |.d x::r=>(zvj r).map (x::·)
 |_::_=>none
def yf0(cs:List V):V:=
 match zvj cs with
 |some ds=>.d (.agg ds)
 |none=>.agg cs
def asV:List D->List V
 |[]=>[]
 |x::r=>.d x::asV r
def cellsOf:V->Option (List V)
 |.d (.agg cs)=>some (asV cs)
 |.agg cs=>some cs
 |.tup _=>none
 |.skip=>none
 |.undef=>none
 |v=>some [v]
def win{α:Type}(cs:List α)(off n:Nat):List α:=(cs.drop off).take n
def patch{α:Type}(cs:List α)(off:Nat)(xs:List α):List α:=cs.take off++xs++cs.drop (off+xs.length)
def zrq:V->V
 |.d (.fn f)=>.fn f [] []
 |v=>v
mutual
def freeze(any:Bool)(m:Mem):V->Option D
 |.d x=>some x
 |.cl n cs=>some (.list n cs)
 |.agg cs=>(freezeL any m cs).map .agg
 |.fn f [] []=>some (.fn f)
 |.ref o off len top=>
  match look m o with
  |some (.row wr _ sz n xs)=>
   if(wr=false\/any=true)/\n=top/\off+len<=n then
    some (.list len (if off=0/\len=n then xs else win xs (off*sz) (len*sz)))
   else none
  |_=>none
 |_=>none
def freezeL(any:Bool)(m:Mem):List V->Option (List D)
 |[]=>some []
 |v::r=>
  match freeze any m v,freezeL any m r with
  |some x,some xs=>some (x::xs)
  |_,_=>none
end
def zsz(m:Mem)(v:V):Option (List D):=
 match freeze false m v with
 |some (.agg cs)=>some cs
 |some x=>some [x]
 |none=>none
def z30(m:Mem)(v:V):Option (Nat×List D):=
 match v with
 |.d (.list n cs)=>some (n,cs)
 |.d .nil=>some (0,[])
 |.ref o off len top=>
  match look m o with
  |some (.row _ _ sz n xs)=>
   if n=top/\off+len<=n then some (len,if off=0/\len=n then xs else win xs (off*sz) (len*sz))else none
  |_=>none
 |_=>none
def asI:V->Option Int
 |.d (.int _ n)=>some n
 |_=>none
mutual
def eqD:D->D->Option Bool
 |.int k a,.int l b=>if k=l then some (decide (a=b))else none
 |.bool a,.bool b=>some (a==b)
 |.str a,.str b=>some (a==b)
 |.agg a,.agg b=>eqL a b
 |_,_=>none
def eqL:List D->List D->Option Bool
 |[],[]=>some true
 |x::r,y::s=>
  match eqD x y,eqL r s with
  |some a,some b=>some (a&&b)
  |_,_=>none
 |_,_=>none
end
def zrs:List Bool->List D->Bool
 |[],[]=>true
 |true::l,.str _::r=>zrs l r
 |false::l,.int ..::r=>zrs l r
 |_,_=>false
def zjd:KK->D->Bool
 |.int,.int ..=>true
 |.str,.str _=>true
 |.bool,.bool _=>true
 |.rc l,.agg cs=>zrs l cs
 |_,_=>false
def zda:List KK->List D->Bool
 |[],[]=>true
 |k::r,d::q=>zjd k d&&zda r q
 |_,_=>false
def eqV(ks:Option (List KK))(x y:V):Option Bool:=
 match ks with
 |none=>
  match x,y with
  |.d (.bool a),.d (.bool b)=>some (a==b)
  |_,_=>none
 |some ks=>
  match x,y with
  |.d (.agg a),.d (.agg b)=>if zda ks a&&zda ks b then eqL a b else none
  |_,_=>none
def z3c(op:BinOp)(k:IntKind)(a b:Int):Option D:=
 match op with
 |.add=>some (.int k (k.wrap (a+b)))
 |.sub=>some (.int k (k.wrap (a-b)))
 |.mul=>some (.int k (k.wrap (a*b)))
 |.quo=>if b=0 then none else some (.int k (k.wrap (a.tdiv b)))
 |.rem=>if b=0 then none else some (.int k (a.tmod b))
 |.and=>some (.int k (k.wrap ((BitVec.ofInt k.bits a&&&BitVec.ofInt k.bits b).toNat)))
 |.or=>some (.int k (k.wrap ((BitVec.ofInt k.bits a|||BitVec.ofInt k.bits b).toNat)))
 |.xor=>some (.int k (k.wrap ((BitVec.ofInt k.bits a^^^BitVec.ofInt k.bits b).toNat)))
 |.andNot=>some (.int k (k.wrap ((BitVec.ofInt k.bits a&&&~~~ BitVec.ofInt k.bits b).toNat)))
 |.eql=>some (.bool (decide (a=b)))
 |.neq=>some (.bool (!decide (a=b)))
 |.lss=>some (.bool (decide (a<b)))
 |.leq=>some (.bool (decide (a<=b)))
 |.gtr=>some (.bool (decide (b<a)))
 |.geq=>some (.bool (decide (b<=a)))
 |_=>none
def zal:List UInt8->List UInt8->Bool
 |_,[]=>false
 |[],_::_=>true
 |a::x,b::y=>a<b||(a==b&&zal x y)
def z4t:Nat:=9223372036854775807
def z7a(op:BinOp)(a b:List UInt8):Option D:=
 match op with
 |.add=>if a.length+b.length<=z4t then some (.str (a++b))else none
 |.eql=>some (.bool (a==b))
 |.neq=>some (.bool (!(a==b)))
 |.lss=>some (.bool (zal a b))
 |.leq=>some (.bool (zal a b||a==b))
 |.gtr=>some (.bool (!(zal a b||a==b)))
 |.geq=>some (.bool (!zal a b))
 |_=>none
def ywx(op:BinOp)(x y:V):Option D:=
 match x,y with
 |.d (.int k a),.d (.int l b)=>
  match op with
  |.shl=>if 0<=b then some (.int k (k.wrap (a*2^(min b.toNat k.bits))))else none
  |.shr=>if 0<=b then some (.int k (a.fdiv (2^(min b.toNat k.bits))))else none
  |_=>if k=l then z3c op k a b else none
 |.d (.str a),.d (.str b)=>z7a op a b
 |_,_=>none
def unD(op:UnOp)(x:V):Option D:=
 match op,x with
 |.not,.d (.bool b)=>some (.bool (!b))
 |.neg,.d (.int k n)=>some (.int k (k.wrap (0-n)))
 |_,_=>none
def zsn(mx:Bool):List V->Option D
 |[]=>none
 |.d (.int k a)::r=>go k a r
 |_::_=>none
where
 go(k:IntKind)(a:Int):List V->Option D
  |[]=>some (.int k a)
  |.d (.int _ b)::r=>go k (if mx then(if b>a then b else a)else(if b<a then b else a)) r
  |_::_=>none
def yce(cs:List V):List (Nat×Nat×V)->Option (List V)
 |[]=>some cs
 |(off,n,v)::r=>
  match cellsOf v with
  |some xs=>if xs.length=n/\off+n<=cs.length then yce (patch cs off xs) r else none
  |none=>none
def zy5(e:Env):List (Nat×Nat×Opd)->List (Nat×Nat×V)
 |[]=>[]
 |(a,b,x)::r=>(a,b,x.ev e)::zy5 e r
def ztk(sz:Nat)(m:Mem):List V->Option (List D)
 |[]=>some []
 |v::r=>
  match zsz m v,ztk sz m r with
  |some x,some xs=>if x.length=sz then some (x++xs)else none
  |_,_=>none
@[irreducible]def y0m(n:Nat)(d:D):List yen:=List.replicate n (.z d)
def zbs(cx:Cx)(slot:Nat):List yen->Mem->List V×Mem
 |[],m=>([],m)
 |.z x::r,m=>
  let p:=zbs cx slot r m
  (.d x::p.1,p.2)
 |.own s::r,m=>
  let i:=newId cx slot m
  let p:=zbs cx slot r (upd m i (.row s.wr s.t s.sz 0 []))
  (.ref i 0 0 0::p.1,p.2)
def ylf(n:Option Nat)(cs:List V)(off:Nat):Option V:=
 match n with
 |none=>cs[off]?
 |some n=>if off+n<=cs.length then some (yf0 (win cs off n))else none
def z6q(n:Option Nat)(cs:List D)(off:Nat):Option V:=
 match n with
 |none=>(cs[off]?).map .d
 |some n=>if off+n<=cs.length then some (.d (.agg (win cs off n)))else none
def z4r(n:Option Nat)(m:Mem)(a:V):Option V:=
 match a with
 |.lptr cs off=>z6q n cs off
 |.ptr o off top=>
  match look m o with
  |some (.cells _ cs)=>ylf n cs off
  |some (.row _ _ _ l xs)=>if l=top then z6q n xs off else none
  |_=>none
 |_=>none
def zzg(n:Nat)(m:Mem)(a x:V):Option Mem:=
 match a with
 |.ptr o off top=>
  match look m o with
  |some (.cells t cs)=>
   match cellsOf x with
   |some xs=>if xs.length=n/\off+n<=cs.length then some (upd m o (.cells t (patch cs off xs)))else none
   |none=>none
  |some (.row true t sz l xs)=>
   match zsz m x with
   |some ds=>if ds.length=n/\off+n<=xs.length/\l=top then some (upd m o (.row true t sz l (patch xs off ds)))else none
   |none=>none
  |_=>none
 |_=>none
def zdd(n:Nat)(lo hi:Option V):Option (Nat×Nat):=
 let h:Option Int:=match hi with
  |none=>some n
  |some v=>asI v
 let l:Option Int:=match lo with
  |none=>some 0
  |some v=>asI v
 match h,l with
 |some h,some l=>if 0<=h/\h<=n/\0<=l/\l<=h then some (l.toNat,h.toNat)else none
 |_,_=>none
def zwf(sz:Nat)(m:Mem)(x:V)(lo hi mx:Option V):Option V:=
 match x with
 |.d (.list n cs)=>
  match zdd n lo hi with
  |some (l,h)=>if mx.isNone\/(hi.isSome/\mx.bind asI=hi.bind asI)then some (.d (.list (h-l) (win cs (l*sz) ((h-l)*sz))))else none
  |none=>none
 |.d .nil=>
  match zdd 0 lo hi with
  |some _=>if mx.isNone then some (.d .nil)else none
  |none=>none
 |.ref o off len top=>
  match look m o with
  |some (.row wr _ sz' n xs)=>
   if n=top/\off+len<=n/\sz'=sz then
    match zdd len lo hi with
    |some (l,h)=>
     if mx.isNone then
      if wr then some (.ref o (off+l) (h-l) top)
      else some (.d (.list (h-l) (win xs ((off+l)*sz) ((h-l)*sz))))
     else none
    |none=>none
   else none
  |_=>none
 |_=>none
def zn8(sz:Nat)(m:Mem)(x i:V):Option V:=
 match asI i with
 |none=>none
 |some i=>
  match x with
  |.d (.list n cs)=>if 0<=i/\i<n then some (.lptr cs (i.toNat*sz))else none
  |.ref o off len top=>
   match look m o with
   |some (.row _ _ sz' n _)=>if 0<=i/\i<len/\n=top/\off+len<=n/\sz'=sz then some (.ptr o ((off+i.toNat)*sz) top)else none
   |_=>none
  |_=>none
def ybb(m:Mem):V->Bool
 |.ptr o _ top=>
  match look m o with
  |some (.cells ..)=>true
  |some (.row _ _ _ n _)=>n==top
  |_=>false
 |.lptr _ _=>true
 |_=>false
def ypi(m:Mem)(v:V):Mem:=
 match v with
 |.ref o _ _ _=>
  match look m o with
  |some (.row true t sz n xs)=>upd m o (.row false t sz n xs)
  |_=>m
 |_=>m
def zhf(off:Nat)(m:Mem)(v:V):Option V:=
 if ybb m v then
  match v with
  |.ptr o b top=>some (.ptr o (b+off) top)
  |.lptr cs b=>some (.lptr cs (b+off))
  |_=>none
 else none
def ygh(n:Option Nat)(x:V)(off:Nat):Option V:=
 match x with
 |.d (.agg cs)=>z6q n cs off
 |.agg cs=>ylf n cs off
 |_=>none
def ymj(m:Mem)(k:Kd)(v:V):Option Nat:=
 match k with
 |.str=>
  match v with
  |.d (.str s)=>some s.length
  |_=>none
 |.slc=>
  match v with
  |.d (.list n _)=>some n
  |.d .nil=>some 0
  |.cl n _=>some n
  |.ref o _ len top=>
   match look m o with
   |some (.row _ _ _ n _)=>if n=top then some len else none
   |_=>none
  |_=>none
 |.map=>
  match v with
  |.mp o=>
   match look m o with
   |some (.map es)=>some es.length
   |_=>none
  |_=>none
 |.cap=>
  match v with
  |.d .nil=>some 0
  |_=>none
def z5f(n by_:Nat):Bool:=decide (n*by_<=140737488355328)&&decide (n<=140737488355328)
def zp8(cx:Cx)(slot:Nat)(r:zd6)(m:Mem)(kd:Option (Nat×List D))(s:V):Option (V×Mem):=
 match kd with
 |none=>none
 |some (k,ds)=>
  match s with
  |.ref o off len top=>
   match look m o with
   |some (.row wr t sz n xs)=>
    if off=0/\len=n/\n=top/\t=r.t/\sz=r.sz/\ds.length=k*sz/\z5f (n+k) r.by_ then
     some (.ref o 0 (n+k) (n+k),upd m o (.row wr t sz (n+k) (xs++ds)))
    else none
   |_=>none
  |.d .nil=>
   if k≠0/\ds.length=k*r.sz/\z5f k r.by_ then
    let i:=newId cx slot m
    some (.ref i 0 k k,upd m i (.row r.wr r.t r.sz k ds))
   else none
  |.cl n cs=>
   if k≠0/\ds.length=k*r.sz/\cs.length=n*r.sz/\z5f (n+k) r.by_ then
    let i:=newId cx slot m
    some (.ref i 0 (n+k) (n+k),upd m i (.row r.wr r.t r.sz (n+k) (cs++ds)))
   else none
  |_=>none
def zwj(cx:Cx)(slot:Nat)(r:zd6)(m:Mem)(s x:V):Option (V×Mem):=zp8 cx slot r m (z30 m x) s
def zxn(r:zd6)(m:Mem)(s x:V):Option (V×Mem):=
 match z30 m x,s with
 |some (k,ds),.ref o off len top=>
  match look m o with
  |some (.row true t sz n xs)=>
   if n=top/\off+len+k<=n/\off+len<n/\t=r.t/\sz=r.sz/\ds.length=k*sz then
    some (.ref o off (len+k) top,upd m o (.row true t sz n (patch xs ((off+len)*sz) ds)))
   else none
  |_=>none
 |_,_=>none
def yn5(m:Mem):V->Option (Nat×Bool)
 |.d .nilp=>some (0,true)
 |.d .nilf=>some (4,true)
 |.d .nili=>some (1,true)
 |.d (.ifc true)=>some (1,false)
 |.d .nilm=>some (3,true)
 |.d (.fn _)=>some (4,false)
 |.d (.list (_+1) _)=>some (2,false)
 |.fn ..=>some (4,false)
 |.lptr ..=>some (0,false)
 |.ptr o off top=>if ybb m (.ptr o off top)then some (0,false)else none
 |.ref o off len top=>
  match look m o with
  |some (.row _ _ _ n _)=>if n=top/\off+len<=n/\len≠0 then some (2,false)else none
  |_=>none
 |_=>none
def yip:List V->Bool
 |[]=>true
 |.d _::r=>yip r
 |_=>false
def yhv(b:List UInt8):List D:=b.map λc=>.int .u8 c.toNat
def zxp(cx:Cx)(slot:Nat)(r:zd6)(m:Mem)(s x:V):Option (V×Mem):=
 match x,s with
 |.d (.str b),.ref ..=>zp8 cx slot r m (some (b.length,yhv b)) s
 |_,_=>none
def yhx(zero:List D)(m:Mem)(x:V):Option Mem:=
 match x with
 |.d (.list 0 _)=>some m
 |.ref o off len top=>
  match look m o with
  |some (.row true t sz n xs)=>
   if n=top/\off+len<=n/\zero.length=sz then
    some (upd m o (.row true t sz n (patch xs (off*sz) (List.replicate len zero).flatten)))
   else none
  |_=>none
 |_=>none
def zii(key:D):List (D×V)->Option (Option V)
 |[]=>some none
 |(q,v)::r=>
  match eqD key q with
  |some true=>some (some v)
  |some false=>zii key r
  |none=>none
def setE(key:D)(x:V):List (D×V)->Option (List (D×V))
 |[]=>some [(key,x)]
 |(q,v)::r=>
  match eqD key q with
  |some true=>some ((q,x)::r)
  |some false=>(setE key x r).map ((q,v)::·)
  |none=>none
def yt4(zero:D)(ok:Bool):Option V->V
 |some v=>if ok then .tup [v,.d (.bool true)]else v
 |none=>if ok then .tup [.d zero,.d (.bool false)]else .d zero
def zqu(kk:KK)(zero:D)(ok:Bool)(m:Mem)(x key:V):Option V:=
 match key with
 |.d key=>
  if zjd kk key then
   match x with
   |.mp o=>
    match look m o with
    |some (.map es)=>(zii key es).map (yt4 zero ok)
    |_=>none
   |.d .nilm=>some (yt4 zero ok none)
   |_=>none
  else none
 |_=>none
def zjz(kk:KK)(m:Mem)(x key v:V):Option Mem:=
 match x,key with
 |.mp o,.d key=>
  match look m o with
  |some (.map es)=>
   if zjd kk key&&(cellsOf v).isSome then(setE key v es).map λes=>upd m o (.map es)else none
  |_=>none
 |_,_=>none
def yr4(m:Mem):V->Option (V×Mem)
 |.it o=>
  match look m o with
  |some (.iter s pos)=>
   if pos<s.length then
    let p:=Utf8.decode ⟨s.toArray⟩ pos
    some (.tup [.d (.bool true),.d (.int .i64 pos),.d (.int .i32 p.1)],upd m o (.iter s (pos+p.2)))
   else some (.tup [.d (.bool false)],m)
  |_=>none
 |_=>none
def subst(σ:List (Id×Id))(i:Id):Id:=
 match σ with
 |[]=>i
 |(a,b)::r=>if a=i then b else subst r i
mutual
def ren(σ:List (Id×Id)):V->V
 |.agg cs=>.agg (zrp σ cs)
 |.tup vs=>.tup (zrp σ vs)
 |.ref o a b c=>.ref (subst σ o) a b c
 |.ptr o a b=>.ptr (subst σ o) a b
 |.fn f a b=>.fn f (zrp σ a) (zrp σ b)
 |.yld o=>.yld (subst σ o)
 |.mp o=>.mp (subst σ o)
 |.it o=>.it (subst σ o)
 |v=>v
def zrp(σ:List (Id×Id)):List V->List V
 |[]=>[]
 |v::r=>ren σ v::zrp σ r
end
def ygo(σ:List (Id×Id)):List (D×V)->List (D×V)
 |[]=>[]
 |(a,v)::r=>(a,ren σ v)::ygo σ r
def renO(σ:List (Id×Id)):Ob->Ob
 |.cells t cs=>.cells t (zrp σ cs)
 |.map es=>.map (ygo σ es)
 |o=>o
def reach(lv:Nat)(m:Mem):Nat->List Id->List Id->List Id
 |0,_,done=>done
 |fuel+1,todo,done=>
  match todo with
  |[]=>done
  |i::r=>
   if lv<=i.lv/\done.elem i=false then
    match look m i with
    |some o=>reach lv m fuel (idsO o++r) (done++[i])
    |none=>reach lv m fuel r done
   else reach lv m fuel r done
def number(cx:Cx)(slot k:Nat):List Id->List (Id×Id)
 |[]=>[]
 |i::r=>(i,⟨cx.lv,slot,k⟩)::number cx slot (k+1) r
def moved(σ:List (Id×Id))(m:Mem):List (Id×Id)->Mem
 |[]=>[]
 |(a,b)::r=>
  match look m a with
  |some o=>(b,renO σ o)::moved σ m r
  |none=>moved σ m r
def isLoop:Ob->Bool
 |.loop ..=>true
 |_=>false
def onceB:List Id->Bool
 |[]=>true
 |i::r=>!r.elem i&&onceB r
def within(is:List Id)(lo:Nat)(l:List Id):Bool:=l.all λi=>is.elem i||decide (i.lv<lo)
def movable(is:List Id)(lo:Nat)(m:Mem):Bool:=
 onceB is&&is.all λi=>
  match look m i with
  |some o=>within is lo (idsO o)&& !isLoop o&&decide (lo<=i.lv)
  |none=>false
def settle(cx:Cx)(slot lo:Nat)(old m:Mem)(v:V):Option (V×Mem):=
 let is:=reach lo m 64 (ids v) []
 let σ:=number cx slot (freeK cx.lv slot old) is
 if within is lo (ids v)&&movable is lo m then some (ren σ v,old++moved σ m σ)else none
def ze1(nx:Nat)(m:Mem):Mem:=m.filter λp=>decide (p.1.lv<nx)
inductive Req where
 |call(lv:Nat)(f:Nat)(args:List V)(m:Mem)
 |round(nx:Nat)(o:Id)(args:List V)(m:Mem)
 |loop(cx:Cx)(live:List Nat)(keep:List Id)(body:C)(e:Env)(m:Mem)
inductive Res where
 |val(v:V)(m:Mem)
 |st(x:Ex)(e:Env)(m:Mem)
abbrev Oracle:=Req->Option Res
def zja(F:Oracle)(cx:Cx)(f:V)(args:List V)(m:Mem):Option (V×Mem):=
 match f with
 |.fn f first caps=>
  match F (.call cx.nx f (first++args++caps) m)with
  |some (.val v m')=>some (v,m')
  |_=>none
 |.yld o=>
  match F (.round cx.nx o args m)with
  |some (.val v m')=>some (v,m')
  |_=>none
 |_=>none
def thaw(m:Mem):V->Option V
 |.tup vs=>(freezeL true m vs).map λxs=>.tup (asV xs)
 |v=>(freeze true m v).map .d
def zk1(nx:Nat)(l:List Id):Bool:=l.all λi=>decide (i.lv<nx)
def zpu(cx:Cx)(slot lo:Nat)(imm:Bool)(old m:Mem)(v:V):Option (V×Mem):=
 if imm then
  if(ids v).all λi=>decide (lo<=i.lv)then(thaw m v).map λv=>(v,old)else none
 else settle cx slot lo old m v
def zlz(F:Oracle)(cx:Cx)(slot:Nat)(shared imm:Bool)(f:V)(args:List V)(m:Mem):Option (V×Mem):=
 if shared then
  if zk1 cx.nx (zoi m)then
   match zja F cx f args m with
   |some (v,m')=>if zk1 cx.nx (idsAll (ze1 cx.nx m'))then zpu cx slot cx.nx imm (ze1 cx.nx m') m' v else none
   |none=>none
  else none
 else
  match f with
  |.fn f first caps=>
   match freezeL false m (first++args++caps)with
   |some ds=>
    match F (.call 0 f (asV ds) [])with
    |some (.val v m')=>zpu cx slot 0 imm m m' v
    |_=>none
   |none=>none
  |_=>none
def z09:D->Bool
 |.int ..=>true
 |.bool _=>true
 |.str _=>true
 |_=>false
def z07(m:Mem):V->Bool
 |.d x=>z09 x
 |.ref o _ _ _=>
  match look m o with
  |some (.row _ _ _ _ xs)=>xs.all z09
  |_=>false
 |_=>false
def z7n(m:Mem):V->Bool
 |.tup vs=>vs.all (z07 m)
 |v=>z07 m v
def z3s(F:Oracle)(f:V)(args:List V)(m:Mem):Option (V×Mem):=
 match f with
 |.fn f first caps=>
  match freezeL true m (first++args++caps)with
  |some ds=>
   match F (.call 0 f (asV ds) [])with
   |some (.val v m')=>if z7n m' v=true then(thaw m' v).map λv=>(v,m)else none
   |_=>none
  |none=>none
 |_=>none
mutual
def zk9:D->D->Bool
 |.int k a,.int l b=>decide (k=l)&&decide (a=b)
 |.bool a,.bool b=>a==b
 |.str a,.str b=>a==b
 |.nil,.nil=>true
 |.list n a,.list m b=>n==m&&zl6 a b
 |.agg a,.agg b=>zl6 a b
 |.nilp,.nilp=>true
 |.nilf,.nilf=>true
 |.nili,.nili=>true
 |.ifc a,.ifc b=>a==b
 |.nilm,.nilm=>true
 |.fn a,.fn b=>a==b
 |_,_=>false
def zl6:List D->List D->Bool
 |[],[]=>true
 |x::r,y::q=>zk9 x y&&zl6 r q
 |_,_=>false
end
mutual
theorem zsw:∀(a b:D),zk9 a b=true->a=b
 |.int k a,b,h=>by cases b<;>simp[zk9]at h;obtain⟨rfl,rfl⟩:=h;rfl
 |.bool a,b,h=>by cases b<;>simp[zk9]at h;subst h;rfl
 |.str a,b,h=>by cases b<;>simp[zk9]at h;subst h;rfl
 |.nil,b,h=>by cases b<;>simp[zk9]at h;rfl
 |.list n a,b,h=>by
  cases b<;>simp[zk9]at h;obtain⟨rfl,h⟩:=h;rw[zgc a _ h]
 |.agg a,b,h=>by
  cases b<;>simp[zk9]at h;rw[zgc a _ h]
 |.nilp,b,h=>by cases b<;>simp[zk9]at h;rfl
 |.nilf,b,h=>by cases b<;>simp[zk9]at h;rfl
 |.nili,b,h=>by cases b<;>simp[zk9]at h;rfl
 |.ifc a,b,h=>by cases b<;>simp[zk9]at h;subst h;rfl
 |.nilm,b,h=>by cases b<;>simp[zk9]at h;rfl
 |.fn a,b,h=>by cases b<;>simp[zk9]at h;subst h;rfl
theorem zgc:∀(a b:List D),zl6 a b=true->a=b
 |[],b,h=>by cases b<;>simp[zl6]at h;rfl
 |x::r,b,h=>by
  cases b<;>simp[zl6]at h;rw[zsw x _ h.1,zgc r _ h.2]
end
theorem ymt:∀(as1 bs:List V)(xs:List D),zvj as1=some xs->zvj bs=some xs->as1=bs
 |[],bs,xs,h,k=>by
  simp only[zvj,Option.some.injEq]at h;subst h;cases bs with
  |nil=>rfl
  |cons b r=>cases b<;>simp[zvj]at k
 |a::r,bs,xs,h,k=>by
  cases a with
  |d x=>
   simp only[zvj,Option.map_eq_some_iff]at h;obtain⟨ys,h1,rfl⟩:=h;cases bs with
   |nil=>simp[zvj]at k
   |cons b q=>
    cases b with
    |d y=>
     simp only[zvj,Option.map_eq_some_iff,List.cons.injEq]at k;obtain⟨zs,k1,rfl,rfl⟩:=k;rw[ymt r q _ h1 k1]
    |_=>simp[zvj]at k
  |_=>simp[zvj]at h
mutual
def zsj:V->V->Bool
 |.d a,.d b=>zk9 a b
 |.agg a,.agg b=>z0c a b
 |.tup a,.tup b=>z0c a b
 |.ref o a b c,.ref o' a' b' c'=>decide (o=o')&&decide (a=a')&&decide (b=b')&&decide (c=c')
 |.ptr o a b,.ptr o' a' b'=>decide (o=o')&&decide (a=a')&&decide (b=b')
 |.lptr a n,.lptr b k=>zl6 a b&&decide (n=k)
 |.cl n a,.cl k b=>zl6 a b&&decide (n=k)
 |.fn f a b,.fn g c d=>decide (f=g)&&z0c a c&&z0c b d
 |.yld o,.yld o'=>decide (o=o')
 |.mp o,.mp o'=>decide (o=o')
 |.it o,.it o'=>decide (o=o')
 |.skip,.skip=>true
 |.undef,.undef=>true
 |_,_=>false
def z0c:List V->List V->Bool
 |[],[]=>true
 |x::r,y::q=>zsj x y&&z0c r q
 |_,_=>false
end
mutual
theorem zt8:∀(a b:V),zsj a b=true->a=b
 |.d a,b,h=>by cases b<;>simp[zsj]at h;rw[zsw _ _ h]
 |.agg a,b,h=>by cases b<;>simp[zsj]at h;rw[zn6 _ _ h]
 |.tup a,b,h=>by cases b<;>simp[zsj]at h;rw[zn6 _ _ h]
 |.ref o a b c,v,h=>by cases v<;>simp[zsj]at h;obtain⟨⟨⟨rfl,rfl⟩,rfl⟩,rfl⟩:=h;rfl
 |.ptr o a b,v,h=>by cases v<;>simp[zsj]at h;obtain⟨⟨rfl,rfl⟩,rfl⟩:=h;rfl
 |.lptr a n,v,h=>by cases v<;>simp[zsj]at h;obtain⟨h,rfl⟩:=h;rw[zgc _ _ h]
 |.cl n a,v,h=>by cases v<;>simp[zsj]at h;obtain⟨h,rfl⟩:=h;rw[zgc _ _ h]
 |.fn f a b,v,h=>by cases v<;>simp[zsj]at h;obtain⟨⟨rfl,h1⟩,h2⟩:=h;rw[zn6 _ _ h1,zn6 _ _ h2]
 |.yld o,v,h=>by cases v<;>simp[zsj]at h;subst h;rfl
 |.mp o,v,h=>by cases v<;>simp[zsj]at h;subst h;rfl
 |.it o,v,h=>by cases v<;>simp[zsj]at h;subst h;rfl
 |.skip,v,h=>by cases v<;>simp[zsj]at h;rfl
 |.undef,v,h=>by cases v<;>simp[zsj]at h;rfl
theorem zn6:∀(a b:List V),z0c a b=true->a=b
 |[],b,h=>by cases b<;>simp[z0c]at h;rfl
 |x::r,b,h=>by
  cases b<;>simp[z0c]at h;rw[zt8 x _ h.1,zn6 r _ h.2]
end
def yt0:Env->Env->Bool
 |[],[]=>true
 |(t,v)::r,(u,w)::q=>decide (t=u)&&zsj v w&&yt0 r q
 |_,_=>false
theorem yfg:∀(a b:Env),yt0 a b=true->a=b
 |[],b,h=>by cases b<;>simp[yt0]at h;rfl
 |(t,v)::r,b,h=>by
  cases b<;>simp[yt0]at h;obtain⟨⟨rfl,h1⟩,h2⟩:=h;rw[zt8 v _ h1,yfg r _ h2]
def yqq:List (D×V)->List (D×V)->Bool
 |[],[]=>true
 |(k,v)::r,(l,w)::q=>zk9 k l&&zsj v w&&yqq r q
 |_,_=>false
theorem yfi:∀(a b:List (D×V)),yqq a b=true->a=b
 |[],b,h=>by cases b<;>simp[yqq]at h;rfl
 |(t,v)::r,b,h=>by
  cases b<;>simp[yqq]at h;obtain⟨⟨h0,h1⟩,h2⟩:=h;rw[zsw t _ h0,zt8 v _ h1,yfi r _ h2]
def ygu:Ob->Ob->Bool
 |.cells t cs,.cells u ds=>decide (t=u)&&z0c cs ds
 |.row a t sz n xs,.row b u sz' n' ys=>a==b&&decide (t=u)&&decide (sz=sz')&&decide (n=n')&&zl6 xs ys
 |.map es,.map fs=>yqq es fs
 |_,_=>false
theorem ys0:∀(a b:Ob),ygu a b=true->a=b:=by
 intro a b h
 cases a<;>cases b<;>simp only[ygu,Bool.false_eq_true]at h
 ·simp only[Bool.and_eq_true,decide_eq_true_eq]at h;rw[h.1,zn6 _ _ h.2]
 ·simp only[Bool.and_eq_true,decide_eq_true_eq,beq_iff_eq]at h;obtain⟨⟨⟨⟨rfl,rfl⟩,rfl⟩,rfl⟩,h⟩:=h;rw[zgc _ _ h]
 rw[yfi _ _ h]
def yct(m1:Mem):Mem->Bool
 |[]=>true
 |(i,o)::r=>(match look m1 i with
  |some o'=>ygu o o'
  |none=>false)&&yct m1 r
def zpk(σ:List (Id×Id)):List (Id×Id):=σ.map λp=>(p.2,p.1)
def zyi(F:Oracle)(f:V)(args:List V)(m:Mem):Option V:=
 match f with
 |.fn f first caps=>
  let as1:=first++args++caps
  let is:=reach 0 m 64 (zev as1) []
  let σ:=number ⟨0,0⟩ 0 0 is
  if within is 0 (zev as1)&&movable is 0 m then
   match F (.call 1 f (zrp σ as1) (moved σ m σ))with
   |some (.val v m1)=>if yct m1 (moved σ m σ)&&(ids v).all (λi=>(σ.map (·.2)).elem i)then some (ren (zpk σ) v)else none
   |_=>none
  else none
 |_=>none
def okU:Ob->Bool
 |.cells ..=>true
 |.row ..=>true
 |.map _=>true
 |_=>false
def zvl(σ:List (Id×Id))(m1:Mem):List (Id×Id)->Mem->Option Mem
 |[],m=>some m
 |(a,b)::r,m=>
  match look m1 b with
  |some o=>if okU o&&(idsO o).all (λi=>(σ.map (·.2)).elem i)then zvl σ m1 r (upd m a (renO (zpk σ) o))else none
  |none=>none
def z0i(m:Mem):V->V
 |.ref o off len top=>
  match freeze false m (.ref o off len top)with
  |some d=>.d d
  |none=>.ref o off len top
 |v=>v
def zt2(F:Oracle)(imm:Bool)(f:V)(args:List V)(m:Mem):Option (V×Mem):=
 match f with
 |.fn f first caps=>
  let as1:=(first++args++caps).map (z0i m)
  let is:=reach 0 m 64 (zev as1) []
  let σ:=number ⟨0,0⟩ 0 0 is
  if within is 0 (zev as1)&&movable is 0 m then
   match F (.call 1 f (zrp σ as1) (moved σ m σ))with
   |some (.val v m1)=>
    if imm then
     if zk1 1 (zoi (moved σ m σ))&&zk1 1 (idsAll (ze1 1 m1))then
      match zpu ⟨0,1⟩ 0 1 true (ze1 1 m1) m1 v with
      |some (v',m2)=>if(ids v').all (λi=>(σ.map (·.2)).elem i)then(zvl σ m2 σ m).map λm'=>(ren (zpk σ) v',m')else none
      |none=>none
     else none
    else if(ids v).all (λi=>(σ.map (·.2)).elem i)then(zvl σ m1 σ m).map λm'=>(ren (zpk σ) v,m')else none
   |_=>none
  else none
 |_=>none
def zmz(sz:Nat):Nat->List D->List (List D)
 |0,_=>[]
 |n+1,ds=>ds.take sz::zmz sz n (ds.drop sz)
def zxg(x:List D):List (List D)->Option (List (List D))
 |[]=>none
 |y::r=>if zl6 x y then some r else(zxg x r).map (y::·)
def ygi:List (List D)->List (List D)->Bool
 |[],[]=>true
 |x::r,l=>
  match zxg x l with
  |some l'=>ygi r l'
  |none=>false
 |[],_::_=>false
theorem zur(x:List D):∀(l r:List (List D)),zxg x l=some r->l.Perm (x::r)
 |[],r,h=>by simp[zxg]at h
 |y::q,r,h=>by
  simp only[zxg]at h
  split at h
  ·rename_i e;obtain rfl:=Option.some.inj h;rw[zgc _ _ e]
  simp only[Option.map_eq_some_iff]at h;obtain⟨r',h1,rfl⟩:=h;exact((zur x q r' h1).cons y).trans (.swap x y r')
theorem z8f:∀(a b:List (List D)),ygi a b=true->a.Perm b
 |[],b,h=>by cases b<;>simp[ygi]at h;exact .refl _
 |x::r,b,h=>by
  simp only[ygi]at h
  split at h
  ·rename_i l' e;exact((z8f r l' h).cons x).trans (zur x b l' e).symm
  cases h
def yuv(sz n:Nat)(xs ys:List D):Bool:=decide (xs.length=n*sz)&&decide (ys.length=n*sz)&&ygi (zmz sz n xs) (zmz sz n ys)
def ycj(o0:Option Ob):Ob->Ob
 |.loop e ps a b lv bu ov j=>
  match o0 with
  |some (.loop _ ps0 a0 b0 lv0 _ _ _)=>.loop e ps0 a0 b0 lv0 bu ov j
  |_=>.loop e ps a b lv bu ov j
 |o=>o
def ymx(o0:Option Ob):Ob->Ob
 |.row true t sz n xs=>
  match o0 with
  |some (.row true _ _ n0 _)=>if n0=n then .row true t sz n xs else .bag t sz n xs
  |_=>.bag t sz n xs
 |o=>o
def ylo:Option ymn->Option ymn->Bool
 |none,none=>true
 |some (.exit a),some (.exit b)=>decide (a=b)
 |some .ret,some .ret=>true
 |_,_=>false
def yp8(k:D)(v:V):List (D×V)->Option (List (D×V))
 |[]=>none
 |(l,w)::r=>if zk9 k l&&zsj v w then some r else(yp8 k v r).map ((l,w)::·)
def z43:List (D×V)->List (D×V)->Bool
 |[],[]=>true
 |(k,v)::r,q=>
  match yp8 k v q with
  |some q'=>z43 r q'
  |none=>false
 |[],_::_=>false
theorem z8x(k:D)(v:V):∀(l r:List (D×V)),yp8 k v l=some r->l.Perm ((k,v)::r)
 |[],r,h=>by simp[yp8]at h
 |(y,w)::q,r,h=>by
  simp only[yp8]at h
  split at h
  ·rename_i e;obtain rfl:=Option.some.inj h;simp only[Bool.and_eq_true]at e;rw[zsw _ _ e.1,zt8 _ _ e.2]
  simp only[Option.map_eq_some_iff]at h;obtain⟨r',h1,rfl⟩:=h;exact((z8x k v q r' h1).cons (y,w)).trans (.swap (k,v) (y,w) r')
theorem z44:∀(a b:List (D×V)),z43 a b=true->a.Perm b
 |[],b,h=>by cases b<;>simp[z43]at h;exact .refl _
 |(k,v)::r,b,h=>by
  simp only[z43]at h
  split at h
  ·rename_i l' e;exact((z44 r l' h).cons (k,v)).trans (z8x k v b l' e).symm
  cases h
def ykp:List (D×V)->Bool
 |[]=>true
 |(k,_)::r=>(r.all λb=>match eqD k b.1 with
   |some false=>true
   |_=>false)&&ykp r
def leO(o0:Option Ob):Ob->Ob->Bool
 |.cells t cs,.cells u ds=>decide (t=u)&&z0c cs ds
 |.row w t sz n xs,.row w' t' sz' n' ys=>decide (w=w')&&decide (t=t')&&decide (sz=sz')&&decide (n=n')&&zl6 xs ys
 |.row true t sz n xs,.bag t' sz' n' ys=>decide (t=t')&&decide (sz=sz')&&decide (n=n')&&yuv sz n ys xs
 |.bag t sz n xs,.bag t' sz' n' ys=>decide (t=t')&&decide (sz=sz')&&decide (n=n')&&zl6 xs ys
 |.map es,.map fs=>yqq es fs||(ykp fs&&z43 es fs)
 |.iter s p,.iter s' p'=>decide (s=s')&&decide (p=p')
 |.loop e _ _ _ _ bu ov j,.loop e' _ _ _ _ bu' ov' j'=>
  match o0 with
  |some (.loop ..)=>yt0 e e'&&decide (bu=bu')&&decide (ov=ov')&&ylo j j'
  |_=>false
 |.gone,.gone=>true
 |_,_=>false
def leM(m0:Mem):Mem->Mem->Bool
 |[],[]=>true
 |(i,o)::r,(j,o')::r'=>decide (i=j)&&leO (look m0 i) o o'&&leM m0 r r'
 |_,_=>false
def zmc(bag:Bool)(m0 m:Mem):Mem:=m.map λp=>(p.1,if bag then ymx (look m0 p.1) (ycj (look m0 p.1) p.2)else ycj (look m0 p.1) p.2)
def ywf:Ex->Ex->Bool
 |.normal,.normal=>true
 |.exit a,.exit b=>decide (a=b)
 |.ret,.ret=>true
 |_,_=>false
def ycr{α:Type}(x:α):List α->List (List α)
 |[]=>[[x]]
 |y::r=>(x::y::r)::(ycr x r).map (y::·)
def z0r{α:Type}:List α->List (List α)
 |[]=>[[]]
 |x::r=>(z0r r).flatMap (ycr x)
theorem z73{α:Type}(x:α):∀(l q:List α),q∈ycr x l↔∃a b,l=a++b/\q=a++x::b
 |[],q=>by
  simp only[ycr,List.mem_singleton,List.nil_eq,List.append_eq_nil_iff];exact⟨λh=>⟨[],[],⟨rfl,rfl⟩,h⟩,λ⟨a,b,⟨h1,h2⟩,h3⟩=>by subst h1;subst h2;exact h3⟩
 |y::r,q=>by
  simp only[ycr,List.mem_cons,List.mem_map,z73 x r]
  constructor
  ·rintro(rfl|⟨q',⟨a,b,rfl,rfl⟩,rfl⟩)
   ·exact⟨[],y::r,rfl,rfl⟩
   exact⟨y::a,b,rfl,rfl⟩
  rintro⟨a,b,h,rfl⟩;cases a with
  |nil=>left;simp only[List.nil_append]at h;subst h;rfl
  |cons z a=>
   simp only[List.cons_append,List.cons.injEq]at h;obtain⟨rfl,rfl⟩:=h;exact .inr ⟨a++x::b,⟨a,b,rfl,rfl⟩,rfl⟩
theorem zo8{α:Type}:∀(l q:List α),q∈z0r l↔q.Perm l
 |[],q=>by simp[z0r]
 |x::r,q=>by
  simp only[z0r,List.mem_flatMap,z73,zo8 r]
  constructor
  ·rintro⟨p,hp,a,b,rfl,rfl⟩;exact List.perm_middle.trans (hp.cons x)
  intro h;have hx:x∈q:=h.symm.subset (by simp);obtain⟨a,b,rfl⟩:=List.append_of_mem hx;exact⟨a++b,(List.perm_middle.symm.trans h).cons_inv,a,b,rfl,rfl⟩
def Ex.on(nxt:Nat):Ex->Bool
 |.normal=>true
 |.exit j=>Nat.beq j nxt
 |.ret=>false
def yao(out:Nat)(live:List Nat)(p:Ex×Env×Mem):Ex×Env×Mem:=
 match p with
 |(.exit j,e,m)=>if j=out then(.normal,only live e,m)else(.exit j,e,m)
 |p=>p
def zkd(it:Nat)(i:Id)(out nxt:Nat)(live:List Nat)(keep:List Id)(next:Env->Mem->Option (Ex×Env×Mem))(p:Ex×Env×Mem):Option (Ex×Env×Mem):=
 match p.1.on nxt with
 |true=>if zsj (get p.2.1 it) (.it i)then next (only live p.2.1) (gc keep (only live p.2.1) p.2.2)else none
 |false=>some (yao out live p)
def zg2(body:Env->Mem->Option (Ex×Env×Mem))(it:Nat)(i:Id)(out nxt pair:Nat)(live:List Nat)(keep:List Id):List (D×V)->Env->Mem->Option (Ex×Env×Mem)
 |[],e,m=>some (.normal,e,m)
 |(k,v)::r,e,m=>(body (put e pair (.tup [.d k,v])) m).bind (zkd it i out nxt live keep (zg2 body it i out nxt pair live keep r))
def ykf{α β:Type}(run:α->Option β):List α->Option (List β)
 |[]=>some []
 |a::r=>(run a).bind λb=>(ykf run r).bind λbs=>some (b::bs)
theorem z83{α β:Type}{run:α->Option β}:∀{l:List α}{rs:List β},ykf run l=some rs->∀a∈l,∃b∈rs,run a=some b
 |[],_,_,a,ha=>by simp at ha
 |x::r,rs,h,a,ha=>by
  simp only[ykf,Option.bind_eq_some_iff,Option.some.injEq]at h;obtain⟨b,h1,bs,h2,rfl⟩:=h
  rcases List.mem_cons.1 ha with rfl|ha
  ·exact⟨b,by simp,h1⟩
  obtain⟨c,hc,h3⟩:=z83 h2 a ha;exact⟨c,by simp[hc],h3⟩
def zu6(m0:Mem)(p:Ex×Env×Mem)(rs:List (Ex×Env×Mem)):Option (Ex×Env×Mem):=
 if rs.all λq=>ywf q.1 p.1&&yt0 q.2.1 p.2.1&&leM m0 q.2.2 (zmc true m0 p.2.2)then some (p.1,p.2.1,zmc true m0 p.2.2)else none
def ztp(run:List (D×V)->Option (Ex×Env×Mem))(m0:Mem)(es:List (D×V)):Option (Ex×Env×Mem):=
 (run es).bind λp=>(ykf run (z0r es)).bind (zu6 m0 p)
def z87(m:Mem)(p:V×Mem)(rs:List (V×Mem)):Option (V×Mem):=
 if rs.all λq=>zsj q.1 p.1&&leM m q.2 (zmc false m p.2)then some (p.1,zmc false m p.2)else none
def zqt(run:Mem->Option (V×Mem))(m:Mem)(v:V):Option (V×Mem):=
 match v with
 |.ref o _ _ _=>
  match look m o with
  |some (.bag t sz n xs)=>
   if xs.length=n*sz then
    (run (upd m o (.row true t sz n xs))).bind λp=>(ykf (λl=>run (upd m o (.row true t sz n l.flatten))) (z0r (zmz sz n xs))).bind (z87 m p)
   else none
  |_=>run m
 |_=>run m
def zy8(o:Id)(es:List (D×V))(p:Ex×Env×Mem):Option (Ex×Env×Mem):=
 match look p.2.2 o with
 |some .gone=>some (p.1,p.2.1,upd p.2.2 o (.map es))
 |_=>none
def znm(body:Env->Mem->Option (Ex×Env×Mem))(cx:Cx)(it:Nat)(x:Opd)(out nxt pair:Nat)(live:List Nat)(e1:Env)(m1:Mem):Option (Ex×Env×Mem):=
 match x.ev e1 with
 |.mp o=>
  match look m1 o with
  |some (.map es)=>
   let i:=newId cx it m1
   let m2:=upd (upd m1 i .gone) o .gone
   (ztp (λp=>zg2 body it i out nxt pair live (zoi m2) p (only live (put e1 it (.it i))) m2) m2 es).bind (zy8 o es)
  |_=>none
 |_=>none
def yhq:V->List V->Bool
 |.ptr o _ _,vs=>vs.all λv=>
  match v with
  |.ptr o' _ _=>!decide (o'=o)
  |_=>false
 |_,_=>false
def yhp:V->List V->Bool
 |.mp o,vs=>vs.all λv=>
  match v with
  |.ptr o' _ _=>!decide (o'=o)
  |_=>false
 |_,_=>false
def ypg:V->V->Bool
 |.d a,.d b=>zk9 a b
 |.ref o a b c,.ref o' a' b' c'=>decide (o=o')&&decide (a=a')&&decide (b=b')&&decide (c=c')
 |.ptr o a b,.ptr o' a' b'=>decide (o=o')&&decide (a=a')&&decide (b=b')
 |_,_=>false
theorem ys2(a b:V)(h:ypg a b=true):a=b:=by
 unfold ypg at h
 split at h
 ·rw[zsw _ _ h]
 ·simp only[Bool.and_eq_true,decide_eq_true_eq]at h;obtain⟨⟨⟨rfl,rfl⟩,rfl⟩,rfl⟩:=h
  rfl
 ·simp only[Bool.and_eq_true,decide_eq_true_eq]at h;obtain⟨⟨rfl,rfl⟩,rfl⟩:=h
  rfl
 cases h
def z5r:List V->List V->Bool
 |[],[]=>true
 |x::r,y::q=>ypg x y&&z5r r q
 |_,_=>false
theorem ydp:∀(a b:List V),z5r a b=true->a=b
 |[],b,h=>by cases b<;>simp[z5r]at h;rfl
 |x::r,b,h=>by
  cases b<;>simp[z5r]at h;rw[ys2 x _ h.1,ydp r _ h.2]
def yrt:Option Ob->Option Ob->Bool
 |some (.cells t cs),some (.cells u ds)=>decide (t=u)&&z5r cs ds
 |_,_=>false
def z94(m m':Mem):List V->Bool
 |[]=>true
 |.ptr o _ _::r=>yrt (look m o) (look m' o)&&z94 m m' r
 |_::_=>false
def zc5(F:Oracle)(cx:Cx)(slot:Nat)(e:Env)(m:Mem):COp->Option (V×Mem)
 |.mv x=>some (x.ev e,m)
 |.ownNil r=>
  let i:=newId cx slot m
  some (.ref i 0 0 0,upd m i (.row r.wr r.t r.sz 0 []))
 |.pick c a b=>
  match c.ev e with
  |.d (.bool t)=>some (if t then a.ev e else b.ev e,m)
  |_=>none
 |.alloc t cs=>
  let p:=zbs cx slot cs m
  let i:=newId cx slot p.2
  some (.ptr i 0 0,upd p.2 i (.cells t p.1))
 |.box t x=>
  match cellsOf (x.ev e)with
  |some cs=>
   let i:=newId cx slot m
   some (.ptr i 0 0,upd m i (.cells t cs))
  |none=>none
 |.build zero parts=>
  let p:=zbs cx slot zero m
  (yce p.1 (zy5 e parts)).map λcs=>(yf0 cs,p.2)
 |.mkList sz n parts=>(ztk sz m (evs e parts)).map λds=>(.d (.list n ds),m)
 |.mkListD sz n parts=>if yip (evs e parts)then(ztk sz [] (evs e parts)).map λds=>(.d (.list n ds),m)else none
 |.mkRow r n parts=>
  (ztk r.sz m (evs e parts)).map λds=>
   let i:=newId cx slot m
   (.ref i 0 n n,upd m i (.row r.wr r.t r.sz n ds))
 |.load n a=>(z4r n m (a.ev e)).map λv=>(v,m)
 |.store n a x=>(zzg n m (a.ev e) (x.ev e)).map λm=>(.skip,m)
 |.nilCheck x=>
  if ybb m (x.ev e)then some (x.ev e,m)
  else
   match zrq (x.ev e)with
   |.fn f a b=>some (.fn f a b,m)
   |_=>none
 |.bin op x y=>(ywx op (x.ev e) (y.ev e)).map λv=>(.d v,m)
 |.eqv ks neg x y=>(eqV ks (x.ev e) (y.ev e)).map λr=>(.d (.bool (if neg then !r else r)),m)
 |.un op x=>(unD op (x.ev e)).map λv=>(.d v,m)
 |.conv k x=>
  match x.ev e with
  |.d (.int _ n)=>some (.d (.int k (k.wrap n)),m)
  |_=>none
 |.mkFunc f first caps=>some (.fn f (evs e first) (evs e caps),m)
 |.sliceS x lo hi=>
  match x.ev e with
  |.d (.str s)=>
   match zdd s.length (lo.map (·.ev e)) (hi.map (·.ev e))with
   |some (l,h)=>some (.d (.str (win s l (h-l))),m)
   |none=>none
  |_=>none
 |.slice sz x lo hi mx=>(zwf sz m (x.ev e) (lo.map (·.ev e)) (hi.map (·.ev e)) (mx.map (·.ev e))).map λv=>(v,m)
 |.fieldAddr off x=>(zhf off m (x.ev e)).map λv=>(v,m)
 |.field off n x=>(ygh n (x.ev e) off).map λv=>(v,m)
 |.idxAddr sz x i=>(zn8 sz m (x.ev e) (i.ev e)).map λv=>(v,m)
 |.idxAddrA len sz x i=>
  match asI (i.ev e)with
  |some i=>if 0<=i/\i<len then(zhf (i.toNat*sz) m (x.ev e)).map λv=>(v,m)else none
  |none=>none
 |.idxS x i=>
  match x.ev e,asI (i.ev e)with
  |.d (.str s),some i=>if 0<=i then(s[i.toNat]?).map λb=>(.d (.int .u8 b.toNat),m)else none
  |_,_=>none
 |.idxA len sz n x i=>
  match asI (i.ev e)with
  |some i=>if 0<=i/\i<len then(ygh n (x.ev e) (i.toNat*sz)).map λv=>(v,m)else none
  |none=>none
 |.mkMap=>
  let i:=newId cx slot m
  some (.mp i,upd m i (.map []))
 |.lookup kk zero ok x key=>(zqu kk zero ok m (x.ev e) (key.ev e)).map λv=>(v,m)
 |.mapSet kk x key v=>(zjz kk m (x.ev e) (key.ev e) (v.ev e)).map λm=>(.skip,m)
 |.rangeS x=>
  match x.ev e with
  |.d (.str s)=>
   let i:=newId cx slot m
   some (.it i,upd m i (.iter s 0))
  |_=>none
 |.nextS x=>yr4 m (x.ev e)
 |.extract x i=>
  match x.ev e with
  |.tup vs=>(vs[i]?).map λv=>(v,m)
  |_=>none
 |.call shared imm f args=>zlz F cx slot shared imm (zrq (f.ev e)) (evs e args) m
 |.storeR n a x rs=>if yhq (a.ev e) (rs.map (get e))=true then(zzg n m (a.ev e) (x.ev e)).map λm=>(.skip,m)else none
 |.callR imm f args rs=>
  match zlz F cx slot true imm (zrq (f.ev e)) (evs e args) m with
  |some (v,m')=>if z94 m m' (rs.map (get e))=true then some (v,m')else none
  |none=>none
 |.bad=>none
 |.appendZ r zero s n=>
  match s.ev e,n.ev e with
  |.d .nil,.d (.int .i64 n)=>
   if 0<n/\zero.length=r.sz/\z5f n.toNat r.by_ then
    let i:=newId cx slot m
    some (.ref i 0 n.toNat n.toNat,upd m i (.row r.wr r.t r.sz n.toNat (List.replicate n.toNat zero).flatten))
   else none
  |_,_=>none
 |.callB imm f args b=>zqt (λm=>zlz F cx slot true imm (zrq (f.ev e)) (evs e args) m) m (get e b)
 |.mapSetR kk x key v rs=>if yhp (x.ev e) (rs.map (get e))=true then(zjz kk m (x.ev e) (key.ev e) (v.ev e)).map λm=>(.skip,m)else none
 |.appendIn r s x=>zxn r m (s.ev e) (x.ev e)
 |.callD f args=>
  match zrq (f.ev e)with
  |.fn g [] []=>if yip (evs e args)then zlz F cx slot false true (.fn g [] []) (evs e args) m else none
  |_=>none
 |.callK imm f args=>
  match zlz F cx slot true imm (zrq (f.ev e)) (evs e args) m with
  |some (v,m')=>if leM m m' m=true then some (v,m)else none
  |none=>none
 |.callQ f args=>(zyi F (zrq (f.ev e)) (evs e args) m).map λv=>(v,m)
 |.callU imm f args=>zt2 F imm (zrq (f.ev e)) (evs e args) m
 |.callZ f args=>z3s F (zrq (f.ev e)) (evs e args) m
 |.callN f args=>
  match zrq (f.ev e)with
  |.fn g [] []=>if yip (evs e args)then zlz F cx slot false false (.fn g [] []) (evs e args) m else none
  |_=>none
 |.nilEq kd neg x=>
  match yn5 m (x.ev e)with
  |some (k,b)=>if k=kd then some (.d (.bool (if neg then !b else b)),m)else none
  |none=>none
 |.loadD n a=>
  match a.ev e with
  |.lptr cs off=>(z6q n cs off).map λv=>(v,m)
  |_=>none
 |.sealMv x=>some (x.ev e,ypi m (x.ev e))
 |.sliceC _ x hi mx=>
  match x.ev e,asI (hi.ev e),asI (mx.ev e)with
  |.d (.list n cs),some h,some k=>if h=n/\k=n then some (.cl n cs,m)else none
  |_,_,_=>none
 |.fieldAddrD off x=>
  match x.ev e with
  |.lptr cs b=>some (.lptr cs (b+off),m)
  |_=>none
 |.idxAddrD sz x i=>
  match x.ev e,asI (i.ev e)with
  |.d (.list n cs),some i=>if 0<=i/\i<n then some (.lptr cs (i.toNat*sz),m)else none
  |_,_=>none
 |.len k x=>(ymj m k (x.ev e)).map λ(n:Nat)=>(V.d (.int .i64 (n:Int)),m)
 |.append r s x=>zwj cx slot r m (s.ev e) (x.ev e)
 |.appendS r s x=>zxp cx slot r m (s.ev e) (x.ev e)
 |.appendF r s x=>
  match zwj cx slot r m (s.ev e) (x.ev e)with
  |some (v,m')=>(freeze false m' v).map λd=>(.d d,m')
  |none=>none
 |.strB x=>
  match x.ev e with
  |.d (.list 1 [.int .u8 n])=>some (.d (.str [UInt8.ofNat n.toNat]),m)
  |_=>none
 |.minmax mx args=>(zsn mx (evs e args)).map λv=>(.d v,m)
 |.clear zero x=>(yhx zero m (x.ev e)).map λm=>(.skip,m)
def zey(F:Oracle)(cx:Cx)(e:Env)(m:Mem)(o:CO):Option (V×Mem):=
 match o.guard with
 |none=>zc5 F cx (o.dst.getD 0) e m o.op
 |some (t,want)=>
  match get e t with
  |.d (.bool b)=>if b=want then zc5 F cx (o.dst.getD 0) e m o.op else some (.skip,m)
  |.skip=>some (.skip,m)
  |_=>none
def zjb(F:Oracle)(cx:Cx):List CO->Env->Mem->Option (Env×Mem)
 |[],e,m=>some (e,m)
 |o::r,e,m=>
  match zey F cx e m o with
  |some (v,m')=>zjb F cx r (put? e o.dst v) m'
  |none=>none
def yu5(e:Env):List (Nat×Nat)->Bool
 |[]=>true
 |(a,b)::r=>((ids (get e a)).all λi=>!(ids (get e b)).elem i)&&yu5 e r
def ymn.ex:ymn->Ex
 |.exit id=>.exit id
 |.ret=>.ret
def evC(F:Oracle)(cx:Cx):C->Env->Mem->Option (Ex×Env×Mem)
 |.skip,e,m=>some (.normal,e,m)
 |.label,e,m=>some (.normal,e,m)
 |.reg _ ops kill,e,m=>(zjb F cx ops e m).map λp=>(.normal,zdk kill p.1,p.2)
 |.regC ops kill chk,e,m=>(zjb F cx ops e m).bind λp=>if yu5 p.1 chk then some (.normal,zdk kill p.1,p.2)else none
 |.seq a b,e,m=>
  match evC F cx a e m with
  |some (.normal,e',m')=>evC F cx b e' m'
  |r=>r
 |.cond c a b,e,m=>
  match c.ev e with
  |.d (.bool t)=>if t then evC F cx a e m else evC F cx b e m
  |_=>none
 |.block id c,e,m=>
  match evC F cx c e m with
  |some (.exit j,e',m')=>if j=id then some (.normal,e',m')else some (.exit j,e',m')
  |r=>r
 |.loop live c,e,m=>
  match F (.loop cx live (zoi m) c (only live e) (gc (zoi m) (only live e) m))with
  |some (.st x e' m')=>some (x,e',m')
  |_=>none
 |.exit id,e,m=>some (.exit id,e,m)
 |.ret,e,m=>some (.ret,e,m)
 |.bad,_,_=>none
 |.scope c,e,m=>evC F cx c e m
 |.fz t c,e,m=>
  match freeze false m (get e t)with
  |some d=>evC F cx c (put e t (.d d)) m
  |none=>none
 |.rangeM pre it x out nxt pair live ops kill code,e,m=>
  (zjb F cx pre e m).bind λp=>znm (λe m=>(zjb F cx ops e m).bind λq=>evC F cx code (zdk kill q.1) q.2) cx it x out nxt pair live p.1 p.2
 |.rangeFn slot f ps a b,e,m=>
  let i:=newId cx slot m
  let m1:=upd m i (.loop e ps a b cx.lv false false none)
  if zk1 cx.nx (zoi m1)then
   match f.ev e with
   |.fn g first caps=>
    match F (.call cx.nx g (first++[.yld i]++caps) m1)with
    |some (.val _ m')=>
     match look m' i with
     |some (.loop _ _ _ _ _ false _ j)=>
      if zk1 cx.nx (idsAll (ze1 cx.nx m'))then
       let m2:=upd (ze1 cx.nx m') i .gone
       match j with
       |none=>some (.normal,e,m2)
       |some j=>some (j.ex,e,m2)
      else none
     |_=>none
    |_=>none
   |_=>none
  else none
def ywu:List Nat->List V->Env->Env
 |t::r,v::s,e=>ywu r s (put e t v)
 |_,_,e=>e
def params(i:Nat):List V->Env
 |[]=>[]
 |v::r=>(i,v)::params (i+1) r
def yx9(m:Mem)(e:Env):RV->Option V
 |.tmp t=>some (get e t)
 |.cell t n=>z4r n m (get e t)
def z6t(m:Mem)(e:Env):List RV->Option (List V)
 |[]=>some []
 |x::r=>
  match yx9 m e x,z6t m e r with
  |some v,some vs=>some (v::vs)
  |_,_=>none
def results(m:Mem)(e:Env)(rs:List RV):Option V:=
 match rs with
 |[r]=>yx9 m e r
 |rs=>(z6t m e rs).map .tup
abbrev Extern:=Nat->Option (List V->Mem->Option (V×Mem))
def step(Γ:Nat->Option CF)(X:Extern)(F:Oracle):Req->Option Res
 |.call lv f args m=>
  match X f with
  |some x=>(x args m).map λp=>.val p.1 p.2
  |none=>
   match Γ f with
   |some cf=>
    match evC F ⟨lv,lv+1⟩ cf.body (params 0 args) m with
    |some (.normal,e,m')=>(results m' e cf.results).map λv=>.val v m'
    |some (.ret,e,m')=>(results m' e cf.results).map λv=>.val v m'
    |_=>none
   |none=>none
 |.round nx o args m=>
  match look m o with
  |some (.loop e ps a b lv false false _)=>
   if ps.length=args.length then
    match evC F ⟨lv,nx⟩ a (ywu ps args e) m with
    |some (.normal,e1,m1)=>
     match look m1 o with
     |some (.loop e' ps' a' b' lv' false false j')=>
      match evC F ⟨lv,nx⟩ b e1 (upd m1 o (.loop e' ps' a' b' lv' true false j'))with
      |some (x,_,m2)=>
       match look m2 o with
       |some (.loop e' ps' a' b' lv' true false _)=>
        match x with
        |.normal=>some (.val (.d (.bool true)) (gc (zoi m) [] (upd m2 o (.loop e' ps' a' b' lv' false false none))))
        |.exit id=>some (.val (.d (.bool false)) (upd m2 o (.loop e' ps' a' b' lv' false true (some (.exit id)))))
        |.ret=>some (.val (.d (.bool false)) (upd m2 o (.loop e' ps' a' b' lv' false true (some .ret))))
       |_=>none
      |none=>none
     |_=>none
    |_=>none
   else none
  |_=>none
 |.loop cx live keep body e m=>
  match evC F cx body e m with
  |some (.normal,e',m')=>F (.loop cx live keep body (only live e') (gc keep (only live e') m'))
  |some (x,e',m')=>some (.st x e' m')
  |none=>none
abbrev Globs:=List (Nat×List D)
def findC{α:Type}(f:Nat):List (Nat×α)->Option α
 |[]=>none
 |(i,c)::r=>match Nat.beq i f with
  |true=>some c
  |false=>findC f r
theorem findC_mem{α:Type}(f:Nat)(c:α):∀l:List (Nat×α),findC f l=some c->(f,c)∈l
 |[],h=>by simp[findC]at h
 |(i,d)::r,h=>by
  simp only[findC]at h
  split at h
  ·rename_i e;obtain rfl:=Option.some.inj h;rw[Nat.eq_of_beq_eq_true e];simp
  exact List.mem_cons_of_mem _ (findC_mem f c r h)
def iter(Γ:Nat->Option CF)(X:Extern):Nat->Oracle
 |0=>λ_=>none
 |n+1=>step Γ X (iter Γ X n)
end Go.Evl
namespace Go.Evl
abbrev pb:List yen:=[.z (.str []),.z (.str []),.z (.str []),.z (.str []),.z (.str []),.z (.str []),.z (.int .i64 0),.z (.int .i64 0),.z (.int .i64 0),.z (.int .i64 0),.z (.int .i64 0),.z (.int .i64 0),.z (.int .i64 0),.z (.int .i64 0),.z (.int .i64 0),.z (.int .i64 0),.z (.int .i64 0),.z (.int .i64 0)]
abbrev pc:List yen:=[.z (.str []),.z (.str []),.z (.str []),.z (.str []),.z (.str []),.z (.str []),.z (.int .i64 0),.z (.int .i64 0),.z (.int .i64 0),.z (.int .i64 0),.z (.int .i64 0),.z (.int .i64 0),.z (.int .i64 0)]
abbrev pg:List yen:=[.z (.str []),.z (.str []),.z (.str []),.z (.int .i64 0),.z (.int .i64 0),.z (.int .i64 0),.z (.int .i64 0),.z (.int .i64 0),.z (.int .i64 0),.z (.int .i64 0),.z (.int .i64 0)]
abbrev pi:List yen:=[.z (.int .i64 0),.z (.int .i64 0)]
abbrev pj:List yen:=[.z (.str []),.z (.str []),.z (.str []),.z (.str []),.z (.int .i64 0),.z (.int .i64 0),.z (.int .i64 0),.z (.int .i64 0)]
abbrev pk:List yen:=[.z (.int .i64 0),.z (.str []),.z (.str []),.z (.int .i64 0),.z (.int .i64 0),.z (.int .i64 0),.z (.str [])]
abbrev pl:List yen:=[.z (.int .i64 0),.z (.int .i64 0),.z (.nilf),.z (.nilf)]
abbrev pn:List yen:=[.z (.str []),.z (.int .i64 0),.z (.bool false)]
abbrev po:List yen:=[.z (.int .i64 0),.z (.int .i64 0),.z (.nilf)]
abbrev pp:List yen:=[.z (.str []),.z (.str []),.z (.int .i64 0),.z (.bool false),.z (.bool false)]
abbrev pq:List yen:=[.z (.int .i64 0),.z (.str []),.z (.list 0 []),.z (.list 0 []),.z (.str [])]
abbrev pr:List yen:=[.z (.str []),.z (.int .i64 0)]
abbrev pu:List yen:=[.z (.int .i64 0),.z (.int .i64 0),.z (.int .i64 0)]
abbrev pw:List yen:=[.z (.nilf)]
abbrev px:List yen:=[.z (.int .i64 0)]
abbrev pz(a b):=tq a (.mv (kq b))
abbrev mc(a b c):=(⟨none,none,.store a (.t b) (.t c)⟩:CO)
abbrev md(a b c d):=tq a (.idxAddr b (.t c) (.t d))
abbrev me(a b c):=tq a (.pick (.t b) (.t c) (.k (.d (.bool false))))
abbrev mf(a b c):=tq a (.bin .add (.t b) (kq c))
abbrev mg(a):=tq a (.mv (.k (.d (.bool false))))
abbrev mh(a b c):=tq a (.bin .lss (.t b) (.t c))
abbrev ml(a b c):=tq a (.pick (.t b) (.k (.d (.bool true))) (.t c))
abbrev mn(a b c):=gq a b true (.mv (.t c))
abbrev mr(a b):=tq a (.len .slc (.t b))
abbrev mt(a b c):=tq a (.box b (.t c))
abbrev mu(a b c):=tq a (cl b [.t c])
abbrev mw(a b c):=gq a b false (.mv (.t c))
abbrev my(a b c):=tq a (.bin .neq (.t b) (kq c))
abbrev mz(a b c d):=gq a b false (.fieldAddr c (.t d))
abbrev m7(a b c d):=tq a (.idxAddr b (.t c) (kq d))
abbrev m8(a b c):=tq a (.bin .sub (.t b) (.t c))
abbrev ga(a b c):=gq a b true (.load none (.t c))
abbrev gb(a b):=tq a (.nilCheck (.t b))
abbrev gd(a b c d e f):=tq a (.append ⟨false,b,c,d⟩ (.t e) (.t f))
abbrev ge(a b c):=gq a b false (.load none (.t c))
abbrev gf(a b c):=tq a (.bin .add (.t b) (.t c))
abbrev gg(a b c d):=tq a (.call true true (.k (.fn b [] [])) [.t c,.t d])
abbrev gh(a b c d):=tq a (.ownNil ⟨false,b,c,d⟩)
abbrev gi(a b):=tq a (.mv (.k (.d (.list b []))))
abbrev gj(a b c):=(⟨none,none,.mapSet .str (.t a) (.k (.d (.str b))) (.t c)⟩:CO)
abbrev gk(a b c):=tq a (.bin .sub (.t b) (kq c))
abbrev gm(a b c d e f):=tq a (.call true true (.k (.fn b [] [])) [.t c,.t d,.t e,.t f])
abbrev gn(a b c d):=tq a (cl b [.t c,kq d])
abbrev gp(a):=tq a (.mv (.k (.d (.str []))))
abbrev gu(a b c):=tq a (.call false false (.k (.fn b [] [])) [.t c])
abbrev gv(a b c d):=tq a (cl b [.t c,.t d])
abbrev gx(a b c d):=tq a (.mkList b c [.t d])
abbrev gy(a b c d):=gq a b true (.fieldAddr c (.t d))
abbrev gz(a b):=tq a (.un .not (.t b))
abbrev g0(a b c):=tq a (.bin .eql (.t b) (kq c))
abbrev fc(a b c d):=tq a (.ownNil ⟨true,b,c,d⟩)
abbrev fd(a b c):=tq a (.call true true (.t b) [.t c])
abbrev fe(a):=tq a (.mv (.k (.d (.bool true))))
abbrev fg(a b c d e):=tq a (cl b [.t c,kq d,kq e])
abbrev fh(a b c):=tq a (.bin .geq (.t b) (kq c))
abbrev fi(a b c):=tq a (.bin .gtr (.t b) (.t c))
abbrev fj(a b c d e f g):=tq a (.callU false (.k (.fn b [] [])) [.t c,.t d,.t e,.t f,.t g])
abbrev fk(a b c):=tq a (.bin .gtr (.t b) (kq c))
abbrev fl(a b c d e f g):=tq a (.call true true (.k (.fn b [] [])) [.t c,.t d,.t e,.t f,.t g])
abbrev fm(a b c d e):=tq a (.idxAddrA b c (.t d) (kq e))
abbrev fo(a b c d e):=tq a (.mkList b c [.t d,.t e])
abbrev fp(a b c d e):=gq a b true (.idxAddr c (.t d) (.t e))
abbrev fq(a b c d):=tq a (.call true true (.k (.fn b [] [])) [.t c,.k (.fn d [] [])])
abbrev ft(a b c d):=gq a b true (.load (some c) (.t d))
abbrev fu(a b c):=tq a (.bin .shr (.t b) (.k (.d (.int .u64 c))))
abbrev fw(a b c):=tq a (.bin .eql (.t b) (.t c))
abbrev fx(a b c d):=tq a (.callQ (.k (.fn b [] [])) [.t c,.t d])
abbrev fy(a b c):=tq a (.bin .lss (.t b) (kq c))
abbrev f0(a b c):=tq a (.mkFunc b [] [.t c])
abbrev f4(a):=tq a (.mv (.k (.d (.nilp))))
abbrev f5(a b c):=gq a b false (.un .not (.t c))
abbrev f7(a b c d e f g h i j k l m):=tq a (.build pl [(b,c,kq d),(e,f,kq g),(h,i,.k (.fn j [] [])),(k,l,.k (.fn m [] []))])
abbrev f8(a b c d e f):=tq a (.append ⟨true,b,c,d⟩ (.t e) (.t f))
abbrev f9(a b c):=tq a (.bin .neq (.t b) (.t c))
abbrev na(a b c):=tq a (.bin .leq (.t b) (.t c))
abbrev nb(a b c):=gq a b false (.len .slc (.t c))
abbrev nc(a b c d):=gq a b false (.bin .gtr (.t c) (kq d))
abbrev nf(a b c):=gq a b true (.un .not (.t c))
abbrev ng(a b c d):=gq a b false (.pick (.t c) (.t d) (.k (.d (.bool false))))
abbrev nh(a b c d):=gq a b true (.bin .leq (.t c) (kq d))
abbrev ni(a b c d):=gq a b true (.bin .leq (.t c) (.t d))
abbrev nj(a b c):=tq a (.nilEq b false (.t c))
abbrev nk(a b c d):=gq a b true (.pick (.t c) (.k (.d (.bool true))) (.t d))
abbrev nl(a b c):=tq a (.bin .quo (.t b) (.t c))
abbrev nn(a b c):=tq a (.bin .add (.k (.d (.str b))) (.t c))
abbrev np(a b):=tq a (.call false false (.k (.fn b [] [])) [])
abbrev nq(a b c d):=gq a b false (.bin .gtr (.t c) (.t d))
abbrev nr(a b):=tq a (.alloc b pi)
abbrev nv(a b):=tq a (.len .str (.t b))
abbrev nw(a):=tq a (.mv (.k (.d (.nilf))))
abbrev ny(a b c):=tq a (.bin .geq (.t b) (.t c))
abbrev nz(a b):=tq a (.bin .eql (.t b) (.k (.d (.str []))))
abbrev n7(a b c d):=tq a (.callU true (.k (.fn b [] [])) [.t c,.t d])
abbrev n8(a b c d e):=tq a (.callQ (.k (.fn b [] [])) [.t c,.t d,.t e])
abbrev n9(a b c d e):=gq a b true (.call true true (.t c) [.t d,.t e])
abbrev cc(a b c d e):=tq a (.lookup .str (.agg [.int .i64 b,.int .i64 c,.nilf,.nilf]) true (.t d) (.t e))
abbrev cd(a b c):=gq a b true (.len .str (.t c))
abbrev ce(a b c d):=gq a b true (.bin .sub (.t c) (kq d))
abbrev cg(a b c d):=gq a b true (.bin .lss (.t c) (kq d))
abbrev ci(a b c d):=gq a b true (.bin .eql (.t c) (kq d))
abbrev cj(a b c d e f g h i j):=tq a (.build po [(b,c,kq d),(e,f,kq g),(h,i,.k (.fn j [] []))])
abbrev cm(a b c d e):=tq a (.call true true (.t b) [.k (.d (.str c)),.t d,.t e])
abbrev cq(a b c d):=gq a b false (cl c [.t d])
abbrev cr(a b):=tq a (.bin .neq (.t b) (.k (.d (.str []))))
abbrev cv(a b c d):=gq a b true (.bin .neq (.t c) (.k (.d (.str d))))
abbrev cw(a b c d e f):=tq a (.mkList b c [.t d,.t e,.t f])
abbrev cy(a b c):=tq a (.bin .quo (.t b) (kq c))
abbrev cz(a b c):=tq a (.bin .mul (kq b) (.t c))
abbrev c8(a b c d):=gq a b false (.bin .neq (.t c) (kq d))
abbrev db(a b c d):=gq a b false (.bin .neq (.t c) (.t d))
abbrev dc(a b c d):=tq a (.slice b (.t c) none (some (.t d)) none)
abbrev de(a b c d):=gq a b true (.bin .lss (.t c) (.t d))
abbrev df(a b c):=tq a (.bin .neq (.t b) (.k (.d (.str c))))
abbrev dh(a b c):=tq a (.bin .eql (.t b) (.k (.d (.str c))))
abbrev di(a b c d):=tq a (.mkFunc b [] [.t c,.t d])
abbrev dj(a b c d):=gq a b true (cl c [.t d])
abbrev dl(a b c d):=tq a (.callU true (.k (.fn b [] [])) [.t c,.k (.d (.str d))])
abbrev dm(a b):=tq a (.conv .u64 (.t b))
abbrev dn(a b):=tq a (.conv .i64 (.t b))
abbrev dp(a b c):=(⟨none,none,.store a (.t b) (kq c)⟩:CO)
abbrev dq(a b c):=tq a (.bin .leq (.t b) (kq c))
abbrev dt(a b c d):=tq a (.call false false (.k (.fn b [] [])) [.t c,.t d])
abbrev du(a b c d):=gq a b false (.bin .eql (.t c) (.t d))
abbrev dv(a b c d e):=tq a (.idxAddrA b c (.t d) (.t e))
abbrev dw(a b c):=tq a (.bin .geq (.t b) (.k (.d (.int .u64 c))))
abbrev dx(a b c d e f):=tq a (.callU false (.k (.fn b [] [])) [.t c,.t d,.t e,.t f])
abbrev dy(a b):=tq a (.alloc b pb)
abbrev dz(a b c d e):=tq a (.callU false (.k (.fn b [] [])) [.t c,.t d,kq e])
abbrev d3(a b c d e):=tq a (.callU false (.k (.fn b [] [])) [.t c,.t d,.t e])
abbrev d4(a b c d):=gq a b true (.bin .eql (.t c) (.k (.d (.str d))))
abbrev d5(a b c d):=gq a b false (.load (some c) (.t d))
abbrev d6(a b c d e):=gq a b false (.idxAddr c (.t d) (.t e))
abbrev d7(a b c d):=tq a (cl b [.t c,.k (.d (.str d))])
abbrev d8(a b c):=gq a b false (.len .str (.t c))
abbrev d9(a b c d):=tq a (.slice b (.t c) (some (.t d)) none none)
abbrev ba(a b c):=tq a (.bin .rem (.t b) (kq c))
abbrev bc(a b c):=tq a (.bin .mul (.t b) (.t c))
abbrev bf(a b):=tq a (.alloc b pn)
abbrev bh(a b):=tq a (.alloc b pc)
abbrev bj(a b c):=tq a (.sliceS (.t b) (some (.t c)) none)
abbrev bl(a):=tq a (.mkMap)
abbrev bn(a b c d e f g h):=tq a (.build [.z (.int .i64 b),.z (.str []),.own ⟨false,c,d,e⟩,.own ⟨false,f,g,h⟩,.z (.str [])] [])
abbrev bp(a b):=tq a (.callN (.k (.fn b [] [])) [])
abbrev bq(a b c d e):=tq a (.lookup .str (.agg [.int .i64 b,.int .i64 c,.nilf,.nilf]) false (.t d) (.t e))
abbrev br(a b c d):=tq a (.call false true (.t b) [.t c,.t d])
abbrev bv(a):=tq a (.mv (.k (.d (.nilm))))
abbrev bw(a b c):=(⟨none,none,.mapSet (.rc [false,false]) (.t a) (.t b) (.t c)⟩:CO)
abbrev bz(a b c d e f g h i):=tq a (.alloc b [.z (.int .i64 c),.z (.str []),.own ⟨false,d,e,f⟩,.own ⟨false,g,h,i⟩,.z (.str [])])
abbrev b6(a b c d e):=tq a (cl b [.t c,.t d,.t e])
abbrev b7(a b):=(⟨none,none,.store a (.t b) (.k (.d (.bool true)))⟩:CO)
abbrev b8(a b c d):=tq a (.lookup (.rc [false,false]) (.int .i64 b) false (.t c) (.t d))
abbrev kc(a b):=tq a (.alloc b pk)
abbrev ke(a b):=tq a (.alloc b pj)
abbrev kf(a b c d e f g):=tq a (.build pi [(b,c,.t d),(e,f,.t g)])
abbrev kg(a b:Nat)(c:C):C:=.seq (.cond (.t a) .skip (.exit b)) c
abbrev kh(a:Nat)(b c:C):C:=.cond (.t a) b c
abbrev kj(a:Nat)(b:List Nat)(c:C):C:=.block a (.loop b c)
end Go.Evl
