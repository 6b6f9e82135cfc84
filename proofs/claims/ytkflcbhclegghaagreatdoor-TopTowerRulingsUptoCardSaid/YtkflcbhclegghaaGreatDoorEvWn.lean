
/-
 Windows as plain cells, and how they are compared.
-/
import Derived.Test.YtkflcbhclegghaaGreatDoorEvW
import Derived.Test.YtkflcbhclegghaaGreatDoorEvX
namespace Go.Evl
def wndC(w:Int×Int):List D:=[.int .i64 w.1,.int .i64 w.2]
def decW:List D->Option (List (Int×Int))
 |[]=>some []
 |.int .i64 a::.int .i64 b::r=>(decW r).map λl=>(a,b)::l
 |_=>none
theorem decW_eq:∀(ds:List D)(l:List (Int×Int)),decW ds=some l->ds=l.flatMap wndC
 |[],l,h=>by
  simp only[decW,Option.some.injEq]at h;subst h;rfl
 |d::r,l,h=>by
  unfold decW at h
  split at h
  ·rename_i e;cases e
  ·rename_i a b r' e;obtain⟨rfl,rfl⟩:=List.cons.inj e;obtain⟨q,h1,rfl⟩:=Option.map_eq_some_iff.1 h;rw[decW_eq _ q h1];rfl
  cases h
theorem ynb:∀l:List (Int×Int),decW (l.flatMap wndC)=some l
 |[]=>rfl
 |n::r=>by
  rw[List.flatMap_cons];unfold wndC;simp only[List.cons_append,List.nil_append,decW];have:=ynb r;unfold wndC at this;rw[this]
  rfl
def cfW(a b:Int×Int):Int:=if ye5 a.1 b.1≠0 then ye5 a.1 b.1 else ye5 a.2 b.2
def sortWX(f:Nat):List V->Mem->Option (V×Mem):=yj5 (λa b=>decide (cfW a b<0)) wndC decW 2 f
end Go.Evl
