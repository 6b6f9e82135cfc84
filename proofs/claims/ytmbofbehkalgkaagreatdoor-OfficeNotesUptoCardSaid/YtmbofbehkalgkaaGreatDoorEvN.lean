
/-
 Notes as plain cells, and how they are compared.
-/
import Derived.Test.YtmbofbehkalgkaaGreatDoorEvW
import Derived.Test.YtmbofbehkalgkaaGreatDoorEvX
namespace Go.Evl
structure Nte where
 dk:List UInt8
 nu:Int
 da:Int
 tx:List UInt8
 deriving DecidableEq,Inhabited
def Nte.cells (n:Nte):List D:=[.str n.dk,.int .i64 n.nu,.int .i64 n.da,.str n.tx]
def decN:List D->Option (List Nte)
 | []=>some []
 | .str a:: .int .i64 b:: .int .i64 c:: .str d::r=>(decN r).map fun l=>⟨a,b,c,d⟩::l
 | _=>none
theorem decN_eq:∀(ds:List D) (l:List Nte),decN ds=some l->ds=l.flatMap Nte.cells
 | [],l,h=>by
  simp only [decN,Option.some.injEq] at h
  subst h;rfl
 | d::r,l,h=>by
  unfold decN at h
  split at h
  ·rename_i e;cases e
  ·rename_i a b c d' r' e
   obtain⟨rfl,rfl⟩:=List.cons.inj e
   obtain⟨q,h1,rfl⟩:=Option.map_eq_some_iff.1 h
   rw [decN_eq _ q h1];rfl
  ·cases h
theorem yde:∀l:List Nte,decN (l.flatMap Nte.cells)=some l
 | []=>rfl
 | n::r=>by
  rw [List.flatMap_cons]
  unfold Nte.cells
  simp only [List.cons_append,List.nil_append,decN]
  have:=yde r
  unfold Nte.cells at this
  rw [this]
  rfl
def ycp (a b:Int):Int:=if a<b then -1 else if b<a then 1 else 0
def ygi (a b:List UInt8):Int:=if zag a b=true then -1 else if a=b then 0 else 1
def cfN (a b:Nte):Int:=if ycp a.da b.da≠0 then ycp a.da b.da else if ygi a.dk b.dk≠0 then ygi a.dk b.dk else ycp a.nu b.nu
def sortNX (f:Nat):List V->Mem->Option (V×Mem):=yaq (fun a b=>decide (cfN a b<0)) Nte.cells decN 4 f
end Go.Evl
