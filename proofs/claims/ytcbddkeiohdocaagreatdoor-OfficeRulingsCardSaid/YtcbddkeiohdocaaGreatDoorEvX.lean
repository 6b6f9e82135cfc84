
/-
 What functions of Go's library give, as the evaluator says it: strconv.Itoa, Atoi; slices.Sort at integers; strings.Builder's copyCheck and String; strings.Trim, Repeat, Split, Contains, Join, HasSuffix, IndexByte.
-/
import Derived.Test.YtcbddkeiohdocaaGreatDoorEvSyn
import Derived.Lib.AtoiTie
import Derived.Lib.SlTrimSet
import Derived.Lib.Repeat
import Derived.Lib.Split
import Derived.Lib.IndexAny
import Derived.Lib.Join
import Derived.Lib.Bytealg
import Derived.Lib.Strings
namespace Go.Evl
def digitsF:Nat→Nat→List UInt8
 | 0,_=>[]
 | f+1,u=>if u<10 then [UInt8.ofNat (48+u)] else digitsF f (u/10)++[UInt8.ofNat (48+u%10)]
def itoaX:List V→Mem→Option (V×Mem)
 | [.d (.int .i64 n)],m=>if 0≤n∧n≤9223372036854775807 then some (.d (.str (digitsF 20 n.toNat)),m) else none
 | _,_=>none
def copyX (bt:Nat):List V→Mem→Option (V×Mem)
 | [.ptr o 0 _],m=>
  match look m o with
  | some (.cells t [.d .nilp,r])=>if t=bt then some (.tup [],upd m o (.cells t [.ptr o 0 0,r])) else none
  | some (.cells _ [.ptr o' 0 _,_])=>if o'=o then some (.tup [],m) else none
  | _=>none
 | _,_=>none
def bytesOf:List D→Option (List UInt8)
 | []=>some []
 | .int .u8 n::r=>if 0≤n∧n<256 then(bytesOf r).map (UInt8.ofNat n.toNat::·) else none
 | _::_=>none
def stringX (bt et:Nat):List V→Mem→Option (V×Mem)
 | [.ptr o 0 _],m=>
  match look m o with
  | some (.cells t [_,.ref r 0 len top])=>
   match look m r with
   | some (.row false t' 1 n xs)=>
    if t=bt∧t'=et∧len=n∧top=n∧n≠0 then
     match bytesOf xs with
     | some b=>some (.d (.str b),upd m r .gone)
     | none=>none
    else none
   | _=>none
  | _=>none
 | _,_=>none
def insI (x:Int):List Int→List Int
 | []=>[x]
 | y::r=>if x≤y then x::y::r else y::insI x r
def sortI:List Int→List Int
 | []=>[]
 | x::r=>insI x (sortI r)
theorem insI_perm (x:Int):∀l:List Int,(insI x l).Perm (x::l)
 | []=>List.Perm.refl _
 | y::r=>by
  simp only [insI]
  split
  ·exact List.Perm.refl _
  ·exact((insI_perm x r).cons y).trans (List.Perm.swap x y r)
theorem sortI_perm:∀l:List Int,(sortI l).Perm l
 | []=>List.Perm.refl _
 | x::r=>(insI_perm x _).trans ((sortI_perm r).cons x)
theorem insI_sorted (x:Int):∀l:List Int,l.Pairwise (·≤·)→(insI x l).Pairwise (·≤·)
 | [],_=>by simp [insI]
 | y::r,h=>by
  simp only [insI]
  rw [List.pairwise_cons] at h
  split
  ·rename_i hxy
   refine List.pairwise_cons.2 ⟨fun z hz=> ?_,List.pairwise_cons.2 h⟩
   rcases List.mem_cons.1 hz with rfl|hz
   ·exact hxy
   ·exact Int.le_trans hxy (h.1 z hz)
  ·rename_i hxy
   refine List.pairwise_cons.2 ⟨fun z hz=> ?_,insI_sorted x r h.2⟩
   rcases List.mem_cons.1 ((insI_perm x r).mem_iff.1 hz) with rfl|hz
   ·omega
   ·exact h.1 z hz
theorem sortI_sorted:∀l:List Int,(sortI l).Pairwise (·≤·)
 | []=>List.Pairwise.nil
 | x::r=>insI_sorted x _ (sortI_sorted r)
def intsOf:List D→Option (List Int)
 | []=>some []
 | .int .i64 n::r=>(intsOf r).map (n::·)
 | _::_=>none
def sortX:List V→Mem→Option (V×Mem)
 | [.ref o 0 len top],m=>
  match look m o with
  | some (.row true t 1 n xs)=>
   if len=0∧top=0∧n=0 then some (.tup [],m)
   else if len=n∧top=n∧n≠0∧n<4611686018427387904 then
    match intsOf xs with
    | some zs=>some (.tup [],upd m o (.row true t 1 n ((sortI zs).map (.int .i64))))
    | none=>none
   else none
  | _=>none
 | _,_=>none
def atoiX:List V→Mem→Option (V×Mem)
 | [.d (.str s)],m=>
  if s.length≤1000000 then
   match Lib.atoiAll s with
   | .ok n=>some (.tup [.d (.int .i64 n),.d .nili],m)
   | .syntax=>some (.tup [.d (.int .i64 0),.d (.ifc true)],m)
   | .range=>some (.tup [.d (.int .i64 (Lib.atoiSat s)),.d (.ifc true)],m)
  else none
 | _,_=>none
theorem atoiX_short {s:List UInt8} {n:Int} (m:Mem) (hl:s.length≤18) (h:Lib.atoi s=some n):atoiX [.d (.str s)] m=some (.tup [.d (.int .i64 n),.d .nili],m):=by
 have e:Lib.atoiAll s= .ok n:=by rw [Lib.atoiAll_short s hl,h];rfl
 simp only [atoiX,e]
 rw [if_pos (by omega)]
def trimX:List V→Mem→Option (V×Mem)
 | [.d (.str s),.d (.str c)],m=>if s.length≤1000000∧c.length≤1000000∧c.all (fun b=>decide (b.toNat<128)) then some (.d (.str (Lib.trimS s c)),m) else none
 | _,_=>none
def repeatX:List V→Mem→Option (V×Mem)
 | [.d (.str s),.d (.int .i64 c)],m=>if 0≤c∧c≤1000000∧s.length≤1000000 then some (.d (.str (Lib.repeatL s c.toNat)),m) else none
 | _,_=>none
def splitD (s c:List UInt8):List (List UInt8):=(Lib.splitB ⟨c.toArray⟩ 0 (Lib.countB ⟨s.toArray⟩ ⟨c.toArray⟩) ⟨s.toArray⟩).map (·.data.toList)
def splitX:List V→Mem→Option (V×Mem)
 | [.d (.str s),.d (.str c)],m=>if s.length≤1000000∧1≤c.length then some (.d (.list (splitD s c).length ((splitD s c).map D.str)),m) else none
 | _,_=>none
def splitAD (s c:List UInt8) (sv:Nat):List (List UInt8):=(Lib.splitB ⟨c.toArray⟩ sv (Lib.countB ⟨s.toArray⟩ ⟨c.toArray⟩) ⟨s.toArray⟩).map (·.data.toList)
def genSplitX:List V→Mem→Option (V×Mem)
 | [.d (.str s),.d (.str c),.d (.int .i64 v),.d (.int .i64 n)],m=>
  if s.length≤1000000∧1≤c.length∧0≤v∧v≤c.length∧n= -1 then some (.d (.list (splitAD s c v.toNat).length ((splitAD s c v.toNat).map D.str)),m) else none
 | _,_=>none
def indexAnyX:List V→Mem→Option (V×Mem)
 | [.d (.str s),.d (.str c)],m=>
  if s.length≤1000000∧c.length≤1000000∧(c=[61,60,62]∨s.all (fun b=>decide (b.toNat<128))∧c.all (fun b=>decide (b.toNat<128))) then some (.d (.int .i64 (Lib.indexAny s c)),m) else none
 | _,_=>none
def suffixX:List V→Mem→Option (V×Mem)
 | [.d (.str s),.d (.str c)],m=>if s.length≤1000000 then some (.d (.bool (Lib.hasSuffix s c)),m) else none
 | _,_=>none
def indexByteX:List V→Mem→Option (V×Mem)
 | [.d (.str s),.d (.int .u8 c)],m=>some (.d (.int .i64 (Lib.indexByte s c.toNat.toUInt8)),m)
 | _,_=>none
def containsX:List V→Mem→Option (V×Mem)
 | [.d (.str s),.d (.str [c])],m=>some (.d (.bool (decide (0≤Lib.indexByte s c))),m)
 | _,_=>none
def strsOf:List D→Option (List (List UInt8))
 | []=>some []
 | .str s::r=>(strsOf r).map (s::·)
 | _::_=>none
def joinX:List V→Mem→Option (V×Mem)
 | [.d (.list n xs),.d (.str c)],m=>
  match strsOf xs with
  | some zs=>if n=zs.length∧n≠0∧(Lib.join zs c).length≤1000000∧zs.length≤1000000 then some (.d (.str (Lib.join zs c)),m) else none
  | none=>none
 | _,_=>none
end Go.Evl
