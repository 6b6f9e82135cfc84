/-
  TopChockOrder returns true, for every argument: the law, and the last part of what it leans on.
-/
import Derived.KernelRfl
import Derived.Laws.RangeAny
import Derived.Lib.SplitLaws
import Derived.Test.YthmfkkpmjcbgeabGreatDoorEvE
import Derived.Test.YthmfkkpmjcbgeabGreatDoorEvRun
import Derived.Test.YthmfkkpmjcbgeabGreatDoorEvX
import Derived.Test.YthmfkkpmjcbgeabGreatDoorGood
import Derived.Test.YthmfkkpmjcbgeabGreatDoorRead
import Derived.Test.YthmfkkpmjcbgeabGreatDoorToc
namespace Go.Proofs.YthmfkkpmjcbgeabGreatDoor.Co
open Go Go.Evl
set_option maxHeartbeats 32000000
set_option maxRecDepth 100000
abbrev paM (cl:List Cls) (ws:List (List UInt8)) (nm:List UInt8) (a b:D):Mem:=[(⟨0,2,0⟩,.row true zaa 3 0 []),(⟨0,2,1⟩,.cells zab [.ref ⟨0,2,0⟩ 0 0 0,I 0,I 0,I 0]),(⟨0,6,0⟩,.row true zaa 3 cl.length (cl.flatMap Cls.cells)),(⟨0,6,1⟩,.cells zab [.ref ⟨0,6,0⟩ 0 cl.length cl.length,I 0,I 0,I 0]),(⟨1,2,0⟩,.cells zab [.ref ⟨0,6,0⟩ 0 cl.length cl.length,I 0,I 0,I 0]),(⟨1,4,0⟩,.row true zaa 3 0 []),(⟨1,4,1⟩,.cells zab [.ref ⟨1,4,0⟩ 0 0 0,I 0,I 0,I 0]),(⟨1,24,0⟩,.cells zb6 [LS ws]),(⟨2,2,0⟩,.cells zaa [S [],.d (.list 0 []),.d (.list 0 [])]),(⟨2,5,0⟩,.cells zaa [S nm,.d a,.d b])]
abbrev paT (cl:List Cls) (ws:List (List UInt8)) (nm:List UInt8) (a b:D) (l:List Tst):Mem:=[(⟨0,2,0⟩,.row true zaa 3 0 []),(⟨0,2,1⟩,.cells zab [.ref ⟨0,2,0⟩ 0 0 0,I 0,I 0,I 0]),(⟨0,6,0⟩,.row true zaa 3 cl.length (cl.flatMap Cls.cells)),(⟨0,6,1⟩,.cells zab [.ref ⟨0,6,0⟩ 0 cl.length cl.length,I 0,I 0,I 0]),(⟨1,2,0⟩,.cells zab [.ref ⟨0,6,0⟩ 0 cl.length cl.length,I 0,I 0,I 0]),(⟨1,4,0⟩,.row true zaa 3 0 []),(⟨1,4,1⟩,.cells zab [.ref ⟨1,4,0⟩ 0 0 0,I 0,I 0,I 0]),(⟨1,24,0⟩,.cells zb6 [LS ws]),(⟨2,2,0⟩,.cells zaa [S [],.d (.list 0 []),.d (.list 0 [])]),(⟨2,5,0⟩,.cells zaa [S nm,.d a,.d b]),(⟨3,6,0⟩,.row false zay 3 0 []),(⟨3,8,0⟩,.row false zay 3 l.length (l.flatMap Tst.cells))]
abbrev paK (cl:List Cls) (ws:List (List UInt8)) (nm:List UInt8) (a b:D) (l:List Kyt):Mem:=[(⟨0,2,0⟩,.row true zaa 3 0 []),(⟨0,2,1⟩,.cells zab [.ref ⟨0,2,0⟩ 0 0 0,I 0,I 0,I 0]),(⟨0,6,0⟩,.row true zaa 3 cl.length (cl.flatMap Cls.cells)),(⟨0,6,1⟩,.cells zab [.ref ⟨0,6,0⟩ 0 cl.length cl.length,I 0,I 0,I 0]),(⟨1,2,0⟩,.cells zab [.ref ⟨0,6,0⟩ 0 cl.length cl.length,I 0,I 0,I 0]),(⟨1,4,0⟩,.row true zaa 3 0 []),(⟨1,4,1⟩,.cells zab [.ref ⟨1,4,0⟩ 0 0 0,I 0,I 0,I 0]),(⟨1,24,0⟩,.cells zb6 [LS ws]),(⟨2,2,0⟩,.cells zaa [S [],.d (.list 0 []),.d (.list 0 [])]),(⟨2,5,0⟩,.cells zaa [S nm,.d a,.d b]),(⟨3,6,0⟩,.row false zan 2 0 []),(⟨3,8,0⟩,.row false zan 2 l.length (l.flatMap Kyt.cells))]
section
variable {E : Oracle} (g : Good E)
include g
theorem zw1 (cl:List Cls) (ws:List (List UInt8)) (nm:List UInt8) (a b:D) (hn:ws.length<=1000000) (hw:∀w∈ws,w.length<=1000000) {K:V->Mem->Prop}
  (h0:zf6 ws=none->∀(q:List (List UInt8)) (l:List Tst) (t:Tst),K (.tup [.ref ⟨3,6,1⟩ 0 0 0,B false]) (paT cl q nm a b l++[(⟨3,9,0⟩,.cells zay [S t.fa,S t.op,I t.va]),(⟨3,6,1⟩,.row false zay 3 0 [])]))
  (h1:∀(l:List Tst) (q:List (List UInt8)),zf6 ws=some (l,q)->K (.tup [.ref ⟨3,8,0⟩ 0 l.length l.length,B (decide (l≠[]))]) (paT cl q nm a b l)):
  In E 3 zc5 [.ptr ⟨1,24,0⟩ 0 0,S [98,121],.fn zhe [] []] (paM cl ws nm a b) K:=by
 refine In.enter (f:=zc5) g.lim rfl rfl ?_
 repeat' ((conv=>whnf);first
 | refine Yz ?_)
 refine zad.to (zad.by (σ:=List Tst×List (List UInt8)) g (fun s=>s.1.length+s.2.length<=ws.length/\(∀w∈s.2,w.length<=1000000)/\zf6 ws=(zf6 s.2).map fun p=>(s.1++p.1,p.2)) (fun s=>[(0,.ptr ⟨1,24,0⟩ 0 0),(1,S [98,121]),(2,.fn zhe [] []),(8,.ref ⟨3,8,0⟩ 0 s.1.length s.1.length)]) (fun s=>paT cl s.2 nm a b s.1) (fun s=>s.2.length) ?_ ([],ws) ⟨by simp,hw,by cases zf6 ws<;>simp⟩) rfl rfl
 rintro⟨l,q⟩ ⟨hlq,hwq,he⟩ ih
 dsimp only at hlq hwq he ih ⊢
 cases q with
 | nil=>
  rw [zf6] at he
  have h1:=h1 l [] (by rw [he];simp)
  by_cases hl:l=[]
  ·subst hl
   repeat' ((conv=>whnf);first
   | refine Yz ?_
    | (exact h1))
  ·have hl0:0<l.length:=List.length_pos_iff.2 hl
   rw [decide_eq_true hl] at h1
   repeat' ((conv=>whnf);first
   | refine Yz ?_
    | (exact h1))
 | cons w r=>
  rw [List.length_cons] at hlq
  by_cases hb:w=byL
  ·rw [zf6,if_pos hb] at he
   have h1:=h1 l (w::r) (by rw [he];simp)
   by_cases hl:l=[]
   ·subst hl
    repeat' ((conv=>whnf);first
    | refine Yz ?_
     | (refine Cmp.tt (by simp only [List.length_cons];omega) ?_)
     | (refine Cmp.tt hb ?_)
     | (exact h1))
   ·have hl0:0<l.length:=List.length_pos_iff.2 hl
    rw [decide_eq_true hl] at h1
    repeat' ((conv=>whnf);first
    | refine Yz ?_
     | (refine Cmp.tt (by simp only [List.length_cons];omega) ?_)
     | (refine Cmp.tt hb ?_)
     | (exact h1))
  ·rw [zf6,if_neg hb,ywr] at he
   have ht:=yut g w (hwq w (List.mem_cons_self ..))
   generalize ptV w=t at he ht
   obtain⟨⟨fa,op,va⟩,ok⟩:=t
   cases ok with
   | false=>
    have h0:=h0 (by rw [he];rfl) r l ⟨fa,op,va⟩
    repeat' ((conv=>whnf);first
    | refine Yz ?_
     | (refine Cmp.tt (by simp only [List.length_cons];omega) ?_)
     | (refine Cmp.ff hb ?_)
     | (refine zbk.mk (by simp only [List.length_cons];omega) ?_)
     | (refine zb2 g w r (by omega) rfl ?_)
     | (refine zaf.of ht ?_)
     | (exact h0))
   | true=>
    have ih:=ih (l++[⟨fa,op,va⟩],r) ⟨by simp only [List.length_append,List.length_singleton];omega,fun x hx=>hwq x (List.mem_cons_of_mem _ hx),by
     rw [he]
     cases zf6 r<;>simp⟩ (by dsimp only;simp)
    dsimp only [paT] at ih
    rw [List.length_append,List.flatMap_append] at ih
    repeat' ((conv=>whnf);first
    | refine Yz ?_
     | (refine Cmp.tt (by simp only [List.length_cons];omega) ?_)
     | (refine Cmp.ff hb ?_)
     | (refine zbk.mk (by simp only [List.length_cons];omega) ?_)
     | (refine zb2 g w r (by omega) rfl ?_)
     | (refine zaf.of ht ?_)
     | (refine zbk.mk ⟨rfl,rfl,rfl,rfl,rfl,rfl,by show (l.length+1)*40<=_;omega,by omega⟩ ?_)
     | (refine zad.to ih rfl rfl))
theorem zwo (cl:List Cls) (ws:List (List UInt8)) (nm:List UInt8) (a b:D) (hn:ws.length<=1000000) (hw:∀w∈ws,w≠[]/\w.length<=1000000) {K:V->Mem->Prop}
  (h0:zix ws=none->∀(q:List (List UInt8)) (l:List Kyt) (t:Kyt),K (.tup [.ref ⟨3,6,1⟩ 0 0 0,B false]) (paK cl q nm a b l++[(⟨3,9,0⟩,.cells zan [S t.fa,B t.dn]),(⟨3,6,1⟩,.row false zan 2 0 [])]))
  (h1:∀l:List Kyt,zix ws=some l->K (.tup [.ref ⟨3,8,0⟩ 0 l.length l.length,B (decide (l≠[]))]) (paK cl [] nm a b l)):
  In E 3 zdd [.ptr ⟨1,24,0⟩ 0 0,S [],.fn zh0 [] []] (paM cl ws nm a b) K:=by
 refine In.enter (f:=zdd) g.lim rfl rfl ?_
 repeat' ((conv=>whnf);first
 | refine Yz ?_)
 refine zad.to (zad.by (σ:=List Kyt×List (List UInt8)) g (fun s=>s.1.length+s.2.length<=ws.length/\(∀w∈s.2,w≠[]/\w.length<=1000000)/\zix ws=(zix s.2).map fun p=>s.1++p) (fun s=>[(0,.ptr ⟨1,24,0⟩ 0 0),(1,S []),(2,.fn zh0 [] []),(8,.ref ⟨3,8,0⟩ 0 s.1.length s.1.length)]) (fun s=>paK cl s.2 nm a b s.1) (fun s=>s.2.length) ?_ ([],ws) ⟨by simp,hw,by cases zix ws<;>simp⟩) rfl rfl
 rintro⟨l,q⟩ ⟨hlq,hwq,he⟩ ih
 dsimp only at hlq hwq he ih ⊢
 cases q with
 | nil=>
  rw [zix] at he
  have h1:=h1 l (by rw [he];simp)
  by_cases hl:l=[]
  ·subst hl
   repeat' ((conv=>whnf);first
   | refine Yz ?_
    | (exact h1))
  ·have hl0:0<l.length:=List.length_pos_iff.2 hl
   rw [decide_eq_true hl] at h1
   repeat' ((conv=>whnf);first
   | refine Yz ?_
    | (exact h1))
 | cons w r=>
  rw [List.length_cons] at hlq
  obtain⟨hne,hwl⟩:=hwq w (List.mem_cons_self ..)
  rw [zix,yuq hne] at he
  have ht:=yxj g w hne hwl
  generalize pkV w=t at he ht
  obtain⟨⟨fa,dn⟩,ok⟩:=t
  cases ok with
  | false=>
   have h0:=h0 (by rw [he];rfl) r l ⟨fa,dn⟩
   repeat' ((conv=>whnf);first
   | refine Yz ?_
    | (refine Cmp.tt (by simp only [List.length_cons];omega) ?_)
    | (refine Cmp.ff hne ?_)
    | (refine zbk.mk (by simp only [List.length_cons];omega) ?_)
    | (refine zb2 g w r (by omega) rfl ?_)
    | (refine zaf.of ht ?_)
    | (exact h0))
  | true=>
   have ih:=ih (l++[⟨fa,dn⟩],r) ⟨by simp only [List.length_append,List.length_singleton];omega,fun x hx=>hwq x (List.mem_cons_of_mem _ hx),by
    rw [he]
    cases zix r<;>simp⟩ (by dsimp only;simp)
   dsimp only [paK] at ih
   rw [List.length_append,List.flatMap_append] at ih
   repeat' ((conv=>whnf);first
   | refine Yz ?_
    | (refine Cmp.tt (by simp only [List.length_cons];omega) ?_)
    | (refine Cmp.ff hne ?_)
    | (refine zbk.mk (by simp only [List.length_cons];omega) ?_)
    | (refine zb2 g w r (by omega) rfl ?_)
    | (refine zaf.of ht ?_)
    | (refine zbk.mk ⟨rfl,rfl,rfl,rfl,rfl,rfl,by show (l.length+1)*24<=_;omega,by omega⟩ ?_)
    | (refine zad.to ih rfl rfl))
end
abbrev plM (cl:List Cls) (ws:List (List UInt8)):Mem:=[(⟨0,2,0⟩,.row true zaa 3 0 []),(⟨0,2,1⟩,.cells zab [.ref ⟨0,2,0⟩ 0 0 0,I 0,I 0,I 0]),(⟨0,6,0⟩,.row true zaa 3 cl.length (cl.flatMap Cls.cells)),(⟨0,6,1⟩,.cells zab [.ref ⟨0,6,0⟩ 0 cl.length cl.length,I 0,I 0,I 0]),(⟨1,2,0⟩,.cells zab [.ref ⟨0,6,0⟩ 0 cl.length cl.length,I 0,I 0,I 0]),(⟨1,4,0⟩,.row true zaa 3 0 []),(⟨1,4,1⟩,.cells zab [.ref ⟨1,4,0⟩ 0 0 0,I 0,I 0,I 0]),(⟨1,24,0⟩,.cells zb6 [LS ws])]
abbrev plC (cl:List Cls) (ws:List (List UInt8)) (x y:Cls):Mem:=[(⟨0,2,0⟩,.row true zaa 3 0 []),(⟨0,2,1⟩,.cells zab [.ref ⟨0,2,0⟩ 0 0 0,I 0,I 0,I 0]),(⟨0,6,0⟩,.row true zaa 3 cl.length (cl.flatMap Cls.cells)),(⟨0,6,1⟩,.cells zab [.ref ⟨0,6,0⟩ 0 cl.length cl.length,I 0,I 0,I 0]),(⟨1,2,0⟩,.cells zab [.ref ⟨0,6,0⟩ 0 cl.length cl.length,I 0,I 0,I 0]),(⟨1,4,0⟩,.row true zaa 3 0 []),(⟨1,4,1⟩,.cells zab [.ref ⟨1,4,0⟩ 0 0 0,I 0,I 0,I 0]),(⟨1,24,0⟩,.cells zb6 [LS ws]),(⟨2,2,0⟩,.cells zaa [S x.nm,LT x.wh,LK x.ky]),(⟨2,5,0⟩,.cells zaa [S y.nm,LT y.wh,LK y.ky])]
section
variable {E : Oracle} (g : Good E)
include g
theorem zze (cl:List Cls) (ws:List (List UInt8)) (hn:ws.length<=1000000) (hw:∀w∈ws,w≠[]/\w.length<=1000000) {K:V->Mem->Prop}
  (hN:zgk ws=none->∀(q:List (List UInt8)) (x y:Cls),K (.tup [Csv x,B false]) (plC cl q x y))
  (hS:∀c:Cls,zgk ws=some c->∀(q:List (List UInt8)) (y:Cls),K (.tup [Csv c,B true]) (plC cl q c y)):
  In E 2 zer [.ptr ⟨1,24,0⟩ 0 0] (plM cl ws) K:=by
 refine In.enter (f:=zer) g.lim rfl rfl ?_
 cases ws with
 | nil=>
  have hN:=hN rfl [] ⟨[],[],[]⟩ ⟨[],[],[]⟩
  repeat' ((conv=>whnf);first
  | refine Yz ?_
   | (refine yoy g rfl ?_)
   | (refine Cmp.tt rfl ?_)
   | (exact hN))
 | cons nm r=>
  rw [List.length_cons] at hn
  have hne:=(hw nm (List.mem_cons_self ..)).1
  have hwr:=fun x hx=>hw x (List.mem_cons_of_mem _ hx)
  cases r with
  | nil=>
   have hS:=hS ⟨nm,[],[]⟩ rfl [] ⟨nm,[],[]⟩
   repeat' ((conv=>whnf);first
   | refine Yz ?_
    | (refine zb2 g nm [] (by decide) rfl ?_)
    | (refine Cmp.ff hne ?_)
    | (exact hS))
  | cons w q=>
   rw [List.length_cons] at hn
   have hwq:=fun x hx=>hwr x (List.mem_cons_of_mem _ hx)
   by_cases hwh:w=zm2
   ·subst hwh
    cases hT:zf6 q with
    | none=>
     have hN:=hN (by unfold zgk zmt;simp only [if_pos];rw [hT];rfl)
     repeat' ((conv=>whnf);first
     | refine Yz ?_
      | (refine zb2 g nm (zm2::q) (by simp only [List.length_cons];omega) rfl ?_)
      | (refine zb2 g zm2 q (by omega) rfl ?_)
      | (refine Cmp.ff hne ?_)
      | (refine Cmp.tt (by simp only [List.length_cons];omega) ?_)
      | (refine Cmp.ff (by simp only [List.length_cons];omega) ?_)
      | (refine zbk.mk (by simp only [List.length_cons];omega) ?_)
      | (refine Cmp.tt rfl ?_)
      | (refine zw1 g cl q nm _ _ (by omega) (fun x hx=>(hwq x hx).2) (fun _ _ _ _=> ?_) (fun l q h=>by rw [hT] at h;cases h))
      | (exact hN _ ⟨nm,[],[]⟩ ⟨nm,[],[]⟩)
      | (rw [if_pos ⟨rfl,rfl⟩]))
    | some p=>
     obtain⟨l,q2⟩:=p
     by_cases hle:l=[]
     ·subst hle
      have hN:=hN (by unfold zgk zmt;simp only [if_pos];rw [hT];rfl)
      repeat' ((conv=>whnf);first
      | refine Yz ?_
       | (refine zb2 g nm (zm2::q) (by simp only [List.length_cons];omega) rfl ?_)
       | (refine zb2 g zm2 q (by omega) rfl ?_)
       | (refine Cmp.ff hne ?_)
       | (refine Cmp.tt (by simp only [List.length_cons];omega) ?_)
       | (refine Cmp.ff (by simp only [List.length_cons];omega) ?_)
       | (refine zbk.mk (by simp only [List.length_cons];omega) ?_)
       | (refine Cmp.tt rfl ?_)
       | (refine zw1 g cl q nm _ _ (by omega) (fun x hx=>(hwq x hx).2) (fun h=>by rw [hT] at h;cases h) (fun l q h=> ?_);rw [hT] at h;cases h)
       | (exact hN _ ⟨nm,[],[]⟩ ⟨nm,[],[]⟩)
       | (rw [if_pos ⟨rfl,rfl⟩]))
     ·have hld:decide (l≠[])=true:=decide_eq_true hle
      have hq2:q2.length<=q.length/\∀x∈q2,x∈q:=by
       have e:=(zmh hT).1
       exact⟨by rw [e,List.length_append];omega,fun x hx=>by rw [e,List.mem_append];exact .inr hx⟩
      rcases (zmh hT).2 with rfl|⟨q3,rfl⟩
      ·have hS:=hS ⟨nm,l,[]⟩ (by unfold zgk zmt;simp only [if_pos];rw [hT];simp [hle,yf1])
       repeat' ((conv=>whnf);first
       | refine Yz ?_
        | (refine zb2 g nm (zm2::q) (by simp only [List.length_cons];omega) rfl ?_)
        | (refine zb2 g zm2 q (by omega) rfl ?_)
        | (refine Cmp.ff hne ?_)
        | (refine Cmp.tt (by simp only [List.length_cons];omega) ?_)
        | (refine Cmp.ff (by simp only [List.length_cons];omega) ?_)
        | (refine zbk.mk (by simp only [List.length_cons];omega) ?_)
        | (refine Cmp.tt rfl ?_)
        | (refine zw1 g cl q nm _ _ (by omega) (fun x hx=>(hwq x hx).2) (fun h=>by rw [hT] at h;cases h) (fun l q h=> ?_);rw [hT] at h;cases h;rw [hld])
        | (exact hS _ ⟨nm,l,[]⟩)
        | (rw [if_pos ⟨rfl,rfl⟩]))
      ·rw [List.length_cons] at hq2
       have hw3:=fun x hx=>hwq x (hq2.2 x (List.mem_cons_of_mem _ hx))
       cases hK:zix q3 with
       | none=>
        have hN:=hN (by unfold zgk zmt;simp only [if_pos];rw [hT];simp only [Option.bind_some];rw [if_neg hle];simp only [Option.bind_some,yf1,if_pos];rw [hK];rfl)
        repeat' ((conv=>whnf);first
        | refine Yz ?_
         | (refine zb2 g nm (zm2::q) (by simp only [List.length_cons];omega) rfl ?_)
         | (refine zb2 g zm2 q (by omega) rfl ?_)
         | (refine Cmp.ff hne ?_)
         | (refine Cmp.tt (by simp only [List.length_cons];omega) ?_)
         | (refine Cmp.ff (by simp only [List.length_cons];omega) ?_)
         | (refine zbk.mk (by simp only [List.length_cons];omega) ?_)
         | (refine Cmp.tt rfl ?_)
         | (refine zb2 g byL q3 (by omega) rfl ?_)
         | (refine zw1 g cl q nm _ _ (by omega) (fun x hx=>(hwq x hx).2) (fun h=>by rw [hT] at h;cases h) (fun l q h=> ?_);rw [hT] at h;cases h;rw [hld])
         | (refine zwo g cl q3 nm _ _ (by omega) hw3 (fun _ _ _ _=> ?_) (fun l h=>by rw [hK] at h;cases h))
         | (exact hN _ ⟨nm,l,[]⟩ ⟨nm,l,[]⟩)
         | (rw [if_pos ⟨rfl,rfl⟩]))
       | some ks=>
        by_cases hke:ks=[]
        ·subst hke
         have hN:=hN (by unfold zgk zmt;simp only [if_pos];rw [hT];simp only [Option.bind_some];rw [if_neg hle];simp only [Option.bind_some,yf1,if_pos];rw [hK];rfl)
         repeat' ((conv=>whnf);first
         | refine Yz ?_
          | (refine zb2 g nm (zm2::q) (by simp only [List.length_cons];omega) rfl ?_)
          | (refine zb2 g zm2 q (by omega) rfl ?_)
          | (refine Cmp.ff hne ?_)
          | (refine Cmp.tt (by simp only [List.length_cons];omega) ?_)
          | (refine Cmp.ff (by simp only [List.length_cons];omega) ?_)
          | (refine zbk.mk (by simp only [List.length_cons];omega) ?_)
          | (refine Cmp.tt rfl ?_)
          | (refine zb2 g byL q3 (by omega) rfl ?_)
          | (refine zw1 g cl q nm _ _ (by omega) (fun x hx=>(hwq x hx).2) (fun h=>by rw [hT] at h;cases h) (fun l q h=> ?_);rw [hT] at h;cases h;rw [hld])
          | (refine zwo g cl q3 nm _ _ (by omega) hw3 (fun h=>by rw [hK] at h;cases h) (fun l h=> ?_);rw [hK] at h;cases h)
          | (exact hN _ ⟨nm,l,[]⟩ ⟨nm,l,[]⟩)
          | (rw [if_pos ⟨rfl,rfl⟩]))
        ·have hS:=hS ⟨nm,l,ks⟩ (by unfold zgk zmt;simp only [if_pos];rw [hT];simp only [Option.bind_some];rw [if_neg hle];simp only [Option.bind_some,yf1,if_pos];rw [hK];simp [hke])
         have hkd:decide (ks≠[])=true:=decide_eq_true hke
         repeat' ((conv=>whnf);first
         | refine Yz ?_
          | (refine zb2 g nm (zm2::q) (by simp only [List.length_cons];omega) rfl ?_)
          | (refine zb2 g zm2 q (by omega) rfl ?_)
          | (refine Cmp.ff hne ?_)
          | (refine Cmp.tt (by simp only [List.length_cons];omega) ?_)
          | (refine Cmp.ff (by simp only [List.length_cons];omega) ?_)
          | (refine zbk.mk (by simp only [List.length_cons];omega) ?_)
          | (refine Cmp.tt rfl ?_)
          | (refine zb2 g byL q3 (by omega) rfl ?_)
          | (refine zw1 g cl q nm _ _ (by omega) (fun x hx=>(hwq x hx).2) (fun h=>by rw [hT] at h;cases h) (fun l q h=> ?_);rw [hT] at h;cases h;rw [hld])
          | (refine zwo g cl q3 nm _ _ (by omega) hw3 (fun h=>by rw [hK] at h;cases h) (fun l h=> ?_);rw [hK] at h;cases h;rw [hkd])
          | (exact hS _ ⟨nm,l,ks⟩)
          | (rw [if_pos ⟨rfl,rfl⟩]))
   ·have eW:zmt (w::q)=some ([],w::q):=by unfold zmt;exact if_neg hwh
    by_cases hby:w=byL
    ·subst hby
     cases hK:zix q with
     | none=>
      have hN:=hN (by unfold zgk;simp only [eW,Option.bind_some,yf1,if_pos];rw [hK];rfl)
      repeat' ((conv=>whnf);first
      | refine Yz ?_
       | (refine zb2 g nm (byL::q) (by simp only [List.length_cons];omega) rfl ?_)
       | (refine zb2 g byL q (by omega) rfl ?_)
       | (refine Cmp.ff hne ?_)
       | (refine Cmp.ff hwh ?_)
       | (refine Cmp.tt (by simp only [List.length_cons];omega) ?_)
       | (refine Cmp.ff (by simp only [List.length_cons];omega) ?_)
       | (refine zbk.mk (by simp only [List.length_cons];omega) ?_)
       | (refine Cmp.tt rfl ?_)
       | (refine zwo g cl q nm _ _ (by omega) hwq (fun _ _ _ _=> ?_) (fun l h=>by rw [hK] at h;cases h))
       | (exact hN _ ⟨nm,[],[]⟩ ⟨nm,[],[]⟩)
       | (rw [if_pos ⟨rfl,rfl⟩]))
     | some ks=>
      by_cases hke:ks=[]
      ·subst hke
       have hN:=hN (by unfold zgk;simp only [eW,Option.bind_some,yf1,if_pos];rw [hK];rfl)
       repeat' ((conv=>whnf);first
       | refine Yz ?_
        | (refine zb2 g nm (byL::q) (by simp only [List.length_cons];omega) rfl ?_)
        | (refine zb2 g byL q (by omega) rfl ?_)
        | (refine Cmp.ff hne ?_)
        | (refine Cmp.ff hwh ?_)
        | (refine Cmp.tt (by simp only [List.length_cons];omega) ?_)
        | (refine Cmp.ff (by simp only [List.length_cons];omega) ?_)
        | (refine zbk.mk (by simp only [List.length_cons];omega) ?_)
        | (refine Cmp.tt rfl ?_)
        | (refine zwo g cl q nm _ _ (by omega) hwq (fun h=>by rw [hK] at h;cases h) (fun l h=> ?_);rw [hK] at h;cases h)
        | (exact hN _ ⟨nm,[],[]⟩ ⟨nm,[],[]⟩)
        | (rw [if_pos ⟨rfl,rfl⟩]))
      ·have hS:=hS ⟨nm,[],ks⟩ (by unfold zgk;simp only [eW,Option.bind_some,yf1,if_pos];rw [hK];simp [hke])
       have hkd:decide (ks≠[])=true:=decide_eq_true hke
       repeat' ((conv=>whnf);first
       | refine Yz ?_
        | (refine zb2 g nm (byL::q) (by simp only [List.length_cons];omega) rfl ?_)
        | (refine zb2 g byL q (by omega) rfl ?_)
        | (refine Cmp.ff hne ?_)
        | (refine Cmp.ff hwh ?_)
        | (refine Cmp.tt (by simp only [List.length_cons];omega) ?_)
        | (refine Cmp.ff (by simp only [List.length_cons];omega) ?_)
        | (refine zbk.mk (by simp only [List.length_cons];omega) ?_)
        | (refine Cmp.tt rfl ?_)
        | (refine zwo g cl q nm _ _ (by omega) hwq (fun h=>by rw [hK] at h;cases h) (fun l h=> ?_);rw [hK] at h;cases h;rw [hkd])
        | (exact hS _ ⟨nm,[],ks⟩)
        | (rw [if_pos ⟨rfl,rfl⟩]))
    ·have hN:=hN (by unfold zgk;simp only [eW,Option.bind_some,yf1];rw [if_neg hby];rfl)
     repeat' ((conv=>whnf);first
     | refine Yz ?_
      | (refine zb2 g nm (w::q) (by simp only [List.length_cons];omega) rfl ?_)
      | (refine zb2 g w q (by omega) rfl ?_)
      | (refine Cmp.ff hne ?_)
      | (refine Cmp.ff hwh ?_)
      | (refine Cmp.ff hby ?_)
      | (refine Cmp.tt (by simp only [List.length_cons];omega) ?_)
      | (refine Cmp.ff (by simp only [List.length_cons];omega) ?_)
      | (refine zbk.mk (by simp only [List.length_cons];omega) ?_)
      | (exact hN _ ⟨[],[],[]⟩ ⟨nm,[],[]⟩))
end
theorem yck (cl:List Cls) (ws:List (List UInt8)) (h:ws.length≠5):znd cl ws=none:=by
 match ws with
 | []=>rfl
 | [_]=>rfl
 | [_,_]=>rfl
 | [_,_,_]=>rfl
 | [_,_,_,_]=>rfl
 | [_,_,_,_,_]=>exact absurd rfl h
 | _::_::_::_::_::_::_=>rfl
theorem yhy (cl:List Cls) (a b c:List UInt8):znd cl [a,yd9,b,ofL,c]=if(zvq a).2=true/\(zvq b).2=true/\(zvq c).2=true then some ⟨cl,(zvq a).1,(zvq c).1,(zvq b).1⟩ else none:=by
 have key:∀s,(z8p s=none/\¬(zvq s).2=true)\/((zvq s).2=true/\∃n:Nat,z8p s=some n/\(n:Int)=(zvq s).1):=fun s=>by
  have h:=yev s
  by_cases hb:(zvq s).2=true
  ·rw [if_pos hb] at h
   have:=ymq hb
   exact .inr ⟨hb,_,h,by omega⟩
  ·rw [if_neg hb] at h
   exact .inl ⟨h,hb⟩
 unfold znd
 simp only [and_self,if_pos]
 rcases key a with⟨h1,h2⟩|⟨h1,x,h2,h3⟩
 ·rw [h1,if_neg (fun h=>h2 h.1)];rfl
 ·rcases key b with⟨k1,k2⟩|⟨k1,y,k2,k3⟩
  ·rw [h2,k1,if_neg (fun h=>k2 h.2.1)];rfl
  ·rcases key c with⟨j1,j2⟩|⟨j1,z,j2,j3⟩
   ·rw [h2,k2,j1,if_neg (fun h=>j2 h.2.2)];rfl
   ·rw [h2,k2,j2,if_pos ⟨h1,k1,j1⟩,<-h3,<-k3,<-j3];rfl
abbrev ppA (cl:List Cls) (ws:List (List UInt8)):Mem:=[(⟨0,2,0⟩,.row true zaa 3 0 []),(⟨0,2,1⟩,.cells zab [.ref ⟨0,2,0⟩ 0 0 0,I 0,I 0,I 0]),(⟨0,6,0⟩,.row true zaa 3 cl.length (cl.flatMap Cls.cells)),(⟨0,6,1⟩,.cells zab [.ref ⟨0,6,0⟩ 0 cl.length cl.length,I 0,I 0,I 0]),(⟨1,2,0⟩,.cells zab [.ref ⟨0,6,0⟩ 0 cl.length cl.length,I 0,I 0,I 0]),(⟨1,4,0⟩,.row true zaa 3 0 []),(⟨1,4,1⟩,.cells zab [.ref ⟨1,4,0⟩ 0 0 0,I 0,I 0,I 0]),(⟨1,24,0⟩,.cells zb6 [LS ws]),(⟨2,3,0⟩,.cells zab [.ref ⟨0,6,0⟩ 0 cl.length cl.length,I 0,I 0,I 0]),(⟨2,4,0⟩,.row true zaa 3 0 []),(⟨2,4,1⟩,.cells zab [.ref ⟨2,34,0⟩ 0 0 0,I 0,I 0,I 0]),(⟨2,34,0⟩,.row true zaa 3 0 [])]
abbrev ppB (cl:List Cls) (ws:List (List UInt8)) (a b c:Int):Mem:=[(⟨0,2,0⟩,.row true zaa 3 0 []),(⟨0,2,1⟩,.cells zab [.ref ⟨0,2,0⟩ 0 0 0,I 0,I 0,I 0]),(⟨0,6,0⟩,.row true zaa 3 cl.length (cl.flatMap Cls.cells)),(⟨0,6,1⟩,.cells zab [.ref ⟨0,6,0⟩ 0 cl.length cl.length,I 0,I 0,I 0]),(⟨1,2,0⟩,.cells zab [.ref ⟨0,6,0⟩ 0 cl.length cl.length,I 0,I 0,I 0]),(⟨1,4,0⟩,.row true zaa 3 0 []),(⟨1,4,1⟩,.cells zab [.ref ⟨1,4,0⟩ 0 0 0,I 0,I 0,I 0]),(⟨1,24,0⟩,.cells zb6 [LS ws]),(⟨2,3,0⟩,.cells zab [.ref ⟨0,6,0⟩ 0 cl.length cl.length,I 0,I 0,I 0]),(⟨2,4,0⟩,.row true zaa 3 0 []),(⟨2,4,1⟩,.cells zab [.ref ⟨2,52,0⟩ 0 0 0,I 0,I 0,I 0]),(⟨2,6,0⟩,.cells z64 [I a,I b,I c]),(⟨2,52,0⟩,.row true zaa 3 0 [])]
abbrev ppC (cl:List Cls) (ws:List (List UInt8)) (a b c:Int):Mem:=[(⟨0,2,0⟩,.row true zaa 3 0 []),(⟨0,2,1⟩,.cells zab [.ref ⟨0,2,0⟩ 0 0 0,I 0,I 0,I 0]),(⟨0,6,0⟩,.row true zaa 3 cl.length (cl.flatMap Cls.cells)),(⟨0,6,1⟩,.cells zab [.ref ⟨0,6,0⟩ 0 cl.length cl.length,I 0,I 0,I 0]),(⟨1,2,0⟩,.cells zab [.ref ⟨0,6,0⟩ 0 cl.length cl.length,I 0,I 0,I 0]),(⟨1,4,0⟩,.row true zaa 3 0 []),(⟨1,4,1⟩,.cells zab [.ref ⟨1,4,0⟩ 0 0 0,I 0,I 0,I 0]),(⟨1,24,0⟩,.cells zb6 [LS ws]),(⟨2,3,0⟩,.cells zab [.ref ⟨0,6,0⟩ 0 cl.length cl.length,I a,I c,I b]),(⟨2,4,0⟩,.row true zaa 3 0 []),(⟨2,4,1⟩,.cells zab [.ref ⟨0,6,0⟩ 0 cl.length cl.length,I a,I c,I b]),(⟨2,6,0⟩,.cells z64 [I a,I b,I c])]
section
variable {E : Oracle} (g : Good E)
include g
theorem yrn (cl:List Cls) (ws:List (List UInt8)) (hn:ws.length<=1000000) (hw:∀w∈ws,w.length<=1000000) {K:V->Mem->Prop}
  (hA:znd cl ws=none->K (.tup [.agg [.ref ⟨2,34,0⟩ 0 0 0,I 0,I 0,I 0],B false]) (ppA cl ws))
  (hB:znd cl ws=none->∀a b c:Int,K (.tup [.agg [.ref ⟨2,52,0⟩ 0 0 0,I 0,I 0,I 0],B false]) (ppB cl ws a b c))
  (hC:∀a b c:Int,znd cl ws=some ⟨cl,a,c,b⟩->K (.tup [.agg [.ref ⟨0,6,0⟩ 0 cl.length cl.length,I a,I c,I b],B true]) (ppC cl ws a b c)):
  In E 2 ze7 [.ptr ⟨1,24,0⟩ 0 0,.agg [.ref ⟨0,6,0⟩ 0 cl.length cl.length,I 0,I 0,I 0]] (plM cl ws) K:=by
 refine In.enter (f:=ze7) g.lim rfl rfl ?_
 by_cases h5:ws.length=5
 ·match ws,h5 with
  | [a,s,b,o,c],_=>
   have ha:=ztd g a (hw a (by simp))
   have hb:=ztd g b (hw b (by simp))
   have hc:=ztd g c (hw c (by simp))
   by_cases hs:s=yd9
   ·by_cases ho:o=ofL
    ·subst hs ho
     rw [yhy] at hA hB hC
     generalize zvq a=x at *
     generalize zvq b=y at *
     generalize zvq c=z at *
     obtain⟨x,p⟩:=x
     obtain⟨y,q⟩:=y
     obtain⟨z,r⟩:=z
     cases p with
     | false=>
      have hB:=hB rfl 0 0 0
      repeat' ((conv=>whnf);first
      | refine Yz ?_
       | (refine zad.step g.lim ?_)
       | (refine Cmp.tt rfl ?_)
       | (refine Cmp.ff (fun h=>h rfl) ?_)
       | (apply zaf.of;assumption)
       | (exact hB))
     | true=>
      cases q with
      | false=>
       have hB:=hB rfl x 0 0
       repeat' ((conv=>whnf);first
       | refine Yz ?_
        | (refine zad.step g.lim ?_)
        | (refine Cmp.tt rfl ?_)
        | (refine Cmp.ff (fun h=>h rfl) ?_)
        | (apply zaf.of;assumption)
        | (exact hB))
      | true=>
       cases r with
       | false=>
        have hB:=hB rfl x y 0
        repeat' ((conv=>whnf);first
        | refine Yz ?_
         | (refine zad.step g.lim ?_)
         | (refine Cmp.tt rfl ?_)
         | (refine Cmp.ff (fun h=>h rfl) ?_)
         | (apply zaf.of;assumption)
         | (exact hB))
       | true=>
        have hC:=hC x y z rfl
        repeat' ((conv=>whnf);first
        | refine Yz ?_
         | (refine zad.step g.lim ?_)
         | (refine Cmp.tt rfl ?_)
         | (refine Cmp.ff (fun h=>h rfl) ?_)
         | (apply zaf.of;assumption)
         | (refine zbk.mk ⟨rfl,Nat.le_refl _⟩ ?_)
         | (exact hC))
    ·have hA:=hA (by unfold znd;simp only;rw [if_neg (fun h=>ho h.2)])
     subst hs
     repeat' ((conv=>whnf);first
     | refine Yz ?_
      | (refine Cmp.tt rfl ?_)
      | (refine Cmp.ff ho ?_)
      | (exact hA))
   ·have hA:=hA (by unfold znd;simp only;rw [if_neg (fun h=>hs h.1)])
    repeat' ((conv=>whnf);first
    | refine Yz ?_
     | (refine Cmp.tt rfl ?_)
     | (refine Cmp.ff hs ?_)
     | (exact hA))
 ·have hA:=hA (yck cl ws h5)
  repeat' ((conv=>whnf);first
  | refine Yz ?_
   | (exact hA))
end
end Go.Proofs.YthmfkkpmjcbgeabGreatDoor.Co
namespace Go.Proofs.YthmfkkpmjcbgeabGreatDoor.Co
open Go Go.Evl Go.Lib
def aft (b:UInt8):List UInt8->List (List UInt8)
 | []=>[[]]
 | x::r=>if x=b then [x]::aft b r else
  match aft b r with
  | []=>[[x]]
  | p::q=>(x::p)::q
theorem z5k (b:UInt8):∀s:List UInt8,splitK [b] 1 (count s [b]) s=aft b s
 | []=>by
  have:count ([]:List UInt8) [b]=0:=count_miss (by rw [index_one];rfl)
  rw [this];rfl
 | x::r=>by
  have ih:=z5k b r
  unfold aft
  by_cases h:x=b
  ·subst h
   have hi:index (x::r) [x]=((0:Nat):Int):=by rw [index_one];simp [indexByte]
   have hc:=count_hit (by simp) hi
   simp only [List.length_cons,List.length_nil,Nat.zero_add,List.drop_succ_cons,List.drop_zero] at hc
   rw [hc,Nat.add_comm 1,if_pos rfl,<-ih]
   simp only [splitK,hi,List.length_cons,List.length_nil]
   rfl
  ·rw [count_cons_ne x b r h,if_neg h,<-ih]
   have hx:(x==b)=false:=by simpa using h
   generalize count r [b]=k
   cases k with
   | zero=>rfl
   | succ k=>
    have hr:index (x::r) [b]=if indexByte r b== -1 then -1 else indexByte r b+1:=by rw [index_one];simp [indexByte,hx]
    have hq:index r [b]=indexByte r b:=index_one r b
    simp only [splitK,hr,hq]
    have hge:=indexByte_ge r b
    by_cases hm:indexByte r b= -1
    ·simp [hm]
    ·obtain⟨i,hi⟩:∃i:Nat,indexByte r b=i:=⟨(indexByte r b).toNat,by omega⟩
     rw [hi]
     have e1:(((i:Nat):Int)== -1)=false:=by simp
     have e2:(((i:Nat):Int)+1== -1)=false:=by simp;omega
     have e3:(((i:Nat):Int)+1).toNat=i+1:=by omega
     simp only [e1,e2,e3,Bool.false_eq_true,if_false,Int.toNat_natCast,List.take_succ_cons,List.length_cons,List.length_nil,Nat.zero_add,List.drop_succ_cons]
theorem ycx (s:List UInt8) (b:UInt8):z24 s [b] 1=aft b s:=by
 unfold z24
 rw [splitB_data]
 exact z5k b s
theorem yix:∀s:List UInt8,aft 10 s=if s=[]\/s.getLast? =some 10 then pcs s++[[]] else pcs s
 | []=>by simp [aft,pcs]
 | c::r=>by
  have ih:=yix r
  rw [aft,pcs]
  cases r with
  | nil=>
   by_cases hc:c=10
   ·subst hc;simp [aft,pcs]
   ·simp [aft,pcs,hc]
  | cons d r=>
   rw [ih]
   have hg:(c::d::r).getLast? =(d::r).getLast? :=List.getLast?_cons_cons
   rw [hg]
   have hn:=yka (s:=d::r) (by simp)
   by_cases hl:(d::r).getLast? =some 10
   ·simp only [reduceCtorEq,false_or,if_pos hl]
    by_cases hc:c=10
    ·rw [if_pos hc,if_pos hc,hc];rfl
    ·rw [if_neg hc,if_neg hc]
     cases hp:pcs (d::r) with
     | nil=>exact absurd hp hn
     | cons p q=>rfl
   ·simp only [reduceCtorEq,false_or,if_neg hl]
    by_cases hc:c=10
    ·rw [if_pos hc,if_pos hc,hc]
    ·rw [if_neg hc,if_neg hc]
     try (cases pcs (d::r)<;>rfl)
end Go.Proofs.YthmfkkpmjcbgeabGreatDoor.Co
namespace Go.Proofs.YthmfkkpmjcbgeabGreatDoor.Co
open Go Go.Evl
set_option maxHeartbeats 32000000
set_option maxRecDepth 100000
abbrev pM (cl:List Cls):Mem:=[(⟨0,2,0⟩,.row true zaa 3 0 []),(⟨0,2,1⟩,.cells zab [.ref ⟨0,2,0⟩ 0 0 0,I 0,I 0,I 0]),(⟨0,6,0⟩,.row true zaa 3 cl.length (cl.flatMap Cls.cells)),(⟨0,6,1⟩,.cells zab [.ref ⟨0,6,0⟩ 0 cl.length cl.length,I 0,I 0,I 0])]
abbrev pMx (cl:List Cls) (c:Cls):Mem:=[(⟨0,2,0⟩,.row true zaa 3 0 []),(⟨0,2,1⟩,.cells zab [.ref ⟨0,2,0⟩ 0 0 0,I 0,I 0,I 0]),(⟨0,6,0⟩,.row true zaa 3 (cl.length+1) (cl.flatMap Cls.cells++c.cells)),(⟨0,6,1⟩,.cells zab [.ref ⟨0,6,0⟩ 0 cl.length cl.length,I 0,I 0,I 0])]
abbrev pcM (cl:List Cls) (ws:List (List UInt8)) (c:Cls):Mem:=[(⟨0,2,0⟩,.row true zaa 3 0 []),(⟨0,2,1⟩,.cells zab [.ref ⟨0,2,0⟩ 0 0 0,I 0,I 0,I 0]),(⟨0,6,0⟩,.row true zaa 3 cl.length (cl.flatMap Cls.cells)),(⟨0,6,1⟩,.cells zab [.ref ⟨0,6,0⟩ 0 cl.length cl.length,I 0,I 0,I 0]),(⟨1,2,0⟩,.cells zab [.ref ⟨0,6,0⟩ 0 cl.length cl.length,I 0,I 0,I 0]),(⟨1,4,0⟩,.row true zaa 3 0 []),(⟨1,4,1⟩,.cells zab [.ref ⟨1,4,0⟩ 0 0 0,I 0,I 0,I 0]),(⟨1,24,0⟩,.cells zb6 [LS ws]),(⟨1,10,0⟩,.cells zaa [S c.nm,LT c.wh,LK c.ky]),(⟨2,3,0⟩,.cells zaa [S c.nm,LT c.wh,LK c.ky])]
section
variable {E : Oracle} (g : Good E)
include g
theorem yrr (cl:List Cls) (ws:List (List UInt8)) (c:Cls) (hl:cl.length<=1000000) {K:V->Mem->Prop} (hK:K (I (zqf (znf cl) c.nm 0)) (pcM cl ws c)):
  In E 4 zaw [.ref ⟨0,6,0⟩ 0 cl.length cl.length,.fn zb8 [] [.ptr ⟨2,3,0⟩ 0 0]] (pcM cl ws c) K:=by
 generalize hA:zqf (znf cl) c.nm 0=A at *
 refine In.enter (f:=zaw) g.lim rfl rfl ?_
 repeat' ((conv=>whnf);first
 | refine Yz ?_)
 refine zad.to (zad.upP g (fun k=>[(0,.ref ⟨0,6,0⟩ 0 cl.length cl.length),(1,.fn zb8 [] [.ptr ⟨2,3,0⟩ 0 0]),(7,I cl.length),(8,I k)]) (fun _=>pcM cl ws c) (fun k=>zqf (znf (cl.drop k)) c.nm k=A) cl.length (fun k hk h0 ih=> ?_) 0 (Nat.zero_le _) hA) rfl rfl
 by_cases hlt:k<cl.length
 ·rw [List.drop_eq_getElem_cons hlt,znf,List.map_cons,zqf] at h0
  have ih:=ih hlt
  by_cases hd:cl[k].nm=c.nm
  ·rw [if_pos hd.symm] at h0
   subst h0
   repeat' ((conv=>whnf);first
   | refine Yz ?_
    | (refine za0.rec0 Cls.cells_length k rfl hlt ?_)
    | (refine In.enter (f:=zb8) g.lim rfl rfl ?_)
    | (refine Cmp.tt hd ?_)
    | (exact hK))
  ·rw [if_neg (Ne.symm hd)] at h0
   have ih:=ih h0
   repeat' ((conv=>whnf);first
   | refine Yz ?_
    | (refine za0.rec0 Cls.cells_length k rfl hlt ?_)
    | (refine In.enter (f:=zb8) g.lim rfl rfl ?_)
    | (refine Cmp.ff hd ?_)
    | (refine zad.to ih rfl rfl))
 ·rw [List.drop_eq_nil_of_le (by omega),znf,List.map_nil,zqf] at h0
  subst h0
  repeat' ((conv=>whnf);first
  | refine Yz ?_
   | (exact hK))
theorem ysd (cl:List Cls) (s:List UInt8) (hs:s.length<=4096) (hcl:cl.length<=16) {K:V->Mem->Prop}
  (hE1:∀(b:Bool) (e:Int),e≠0->zjn cl s= .bad e->K (.tup [.agg [.ref ⟨0,40,0⟩ 0 0 0,I 0,I 0,I 0],B b,I e]) (pM cl++[(⟨0,40,0⟩,.row true zaa 3 0 [])]))
  (hE3:∀(x y z e:Int),e≠0->zjn cl s= .bad e->K (.tup [.agg [.ref ⟨0,6,0⟩ 0 cl.length cl.length,I x,I y,I z],B true,I e]) (pM cl))
  (hE4:∀(c:Cls) (e:Int),e≠0->zjn cl s= .bad e->K (.tup [.agg [.ref ⟨0,6,0⟩ 0 (cl.length+1) (cl.length+1),I 0,I 0,I 0],B false,I e]) (pMx cl c))
  (hS1:∀c:Cls,zjn cl s= .cls c->K (.tup [.agg [.ref ⟨0,6,0⟩ 0 (cl.length+1) (cl.length+1),I 0,I 0,I 0],B false,I 0]) (pMx cl c))
  (hS2:∀x y z:Int,zjn cl s= .pool ⟨cl,x,y,z⟩->K (.tup [.agg [.ref ⟨0,6,0⟩ 0 cl.length cl.length,I x,I y,I z],B true,I 0]) (pM cl)):
  In E 1 zej [.agg [.ref ⟨0,6,0⟩ 0 cl.length cl.length,I 0,I 0,I 0],S s] (pM cl) (fun v m'=>ykr ⟨0,0+1⟩ 40 false v m' K):=by
 refine In.enter (f:=zej) g.lim rfl rfl ?_
 have h1:=zsl g s (by omega)
 have he:(zqd s).length<=4096:=by
  unfold zqd
  split
  ·rw [List.length_dropLast];omega
  ·exact hs
 have h2:=zn3 g (zqd s) (by omega)
 cases hw:zgx s with
 | false=>
  have hE1:=hE1 false 25 (by decide) (by
   have e:zly s=none:=by
    unfold zly
    rw [if_neg]
    intro h
    have:zgx s=true:=decide_eq_true h.1
    rw [hw] at this
    cases this
   unfold zjn
   rw [e])
  rw [hw] at h1
  repeat' ((conv=>whnf);first
  | refine Yz ?_
   | (apply zaf.of;assumption)
   | (refine zb4.nrow (v':= .tup [.agg [.ref ⟨0,40,0⟩ 0 0 0,I 0,I 0,I 0],B false,I 25]) 0 rfl (by decide) rfl rfl rfl ?_)
   | (exact hE1))
 | true=>
  rw [hw] at h1
  have ed:zqd s=s.dropLast:=by unfold zqd;rw [if_pos hw]
  rw [ed] at h1 h2 he
  have hlast:s.getLast? =some 10:=of_decide_eq_true hw
  have hpl:=z22 32 s.dropLast
  have hpn:=zvf 32 s.dropLast
  have h3:=zrt g (parts 32 s.dropLast) [] (by omega)
  by_cases hm:[]∈parts 32 s.dropLast
  ·rw [decide_eq_true hm] at h3
   have hE1:=hE1 false 25 (by decide) (by
    have e:zly s=none:=by
     unfold zly
     rw [if_neg]
     exact fun h=>h.2 hm
    unfold zjn
    rw [e])
   generalize parts 32 s.dropLast=ws at *
   repeat' ((conv=>whnf);first
   | refine Yz ?_
    | (apply zaf.of;assumption)
    | (refine zb4.nrow (v':= .tup [.agg [.ref ⟨0,40,0⟩ 0 0 0,I 0,I 0,I 0],B false,I 25]) 0 rfl (by decide) rfl rfl rfl ?_)
    | (exact hE1))
  ·rw [decide_eq_false hm] at h3
   have hrw:zly s=some (parts 32 s.dropLast):=by
    unfold zly
    exact if_pos ⟨hlast,hm⟩
   have hlen:=zs2 32 s.dropLast
   unfold zjn at hE1 hE3 hE4 hS1 hS2
   rw [hrw] at hE1 hE3 hE4 hS1 hS2
   generalize parts 32 s.dropLast=ws at *
   cases ws with
   | nil=>exact absurd rfl hpn
   | cons w q=>
    simp only at hE1 hE3 hE4 hS1 hS2
    rw [List.length_cons] at hpl
    have hq:∀x∈q,x≠[]/\x.length<=1000000:=fun x hx=>⟨fun e=>hm (by rw [<-e];exact List.mem_cons_of_mem _ hx),by have:=hlen x (List.mem_cons_of_mem _ hx);omega⟩
    by_cases hwc:w=z5f
    ·rw [if_neg (by rw [hwc];decide),if_pos hwc] at hE1 hE4 hS1
     cases hR:zgk q with
     | none=>
      rw [hR] at hE1
      have hE1:=hE1 false 25 (by decide) rfl
      by_cases h16:16<=cl.length
      all_goals repeat' ((conv=>whnf);first
      | refine Yz ?_
       | (apply zaf.of;first |exact h1|exact h2|exact h3)
       | (refine zb2 g w q (by omega) rfl ?_)
       | (refine Cmp.tt hwc ?_)
       | (refine zze g cl q (by omega) hq (fun _ _ _ _=> ?_) (fun c h=>by rw [hR] at h;cases h))
       | (refine zaf.of (zem g _ _) ?_)
       | (refine zaf.of (zey g _ _) ?_)
       | (refine zb4.nrow (v':= .tup [.agg [.ref ⟨0,40,0⟩ 0 0 0,I 0,I 0,I 0],B false,I 25]) 0 rfl (by decide) rfl rfl rfl ?_)
       | (exact hE1))
     | some c=>
      rw [hR] at hE1 hE4 hS1
      simp only at hE1 hE4 hS1
      have hsm:=yc4 hR (by omega)
      by_cases h16:16<=cl.length
      ·rw [if_pos h16] at hE1
       have hE1:=hE1 false 5 (by decide) rfl
       repeat' ((conv=>whnf);first
       | refine Yz ?_
        | (apply zaf.of;first |exact h1|exact h2|exact h3)
        | (refine zb2 g w q (by omega) rfl ?_)
        | (refine Cmp.tt hwc ?_)
        | (refine zze g cl q (by omega) hq (fun h=>by rw [hR] at h;cases h) (fun c' h _ _=> ?_);rw [hR] at h;cases h)
        | (refine zaf.of (zem g _ _) ?_)
        | (refine zaf.of (zey g _ _) ?_)
        | (refine zb4.nrow (v':= .tup [.agg [.ref ⟨0,40,0⟩ 0 0 0,I 0,I 0,I 0],B false,I 5]) 0 rfl (by decide) rfl rfl rfl ?_)
        | (exact hE1))
      ·rw [if_neg h16] at hE4 hS1
       obtain⟨nm,wh,ky⟩:=c
       have k1:=zx0 g ⟨nm,wh,ky⟩ hsm
       have hidx:=zqh nm (znf cl) 0
       have k3:=zey g (zys ⟨nm,wh,ky⟩) (if nm∈znf cl then 9 else 0)
       have hin:=fun {K} (ws:List (List UInt8))=>yrr g cl ws ⟨nm,wh,ky⟩ (by omega) (K:=K)
       have hout:K (.tup [.agg [.ref ⟨0,6,0⟩ 0 (cl.length+1) (cl.length+1),I 0,I 0,I 0],B false,I (zo0 (znf cl) ⟨nm,wh,ky⟩)]) (pMx cl ⟨nm,wh,ky⟩):=by
        by_cases hz:zo0 (znf cl) ⟨nm,wh,ky⟩=0
        ·rw [if_pos hz] at hS1
         rw [hz]
         exact hS1 _ rfl
        ·rw [if_neg hz] at hE4
         exact hE4 _ _ hz rfl
       unfold zo0 at hout
       clear hE1 hE3 hE4 hS1 hS2
       dsimp only at hin hout
       generalize zqf (znf cl) nm 0=r at *
       generalize zys ⟨nm,wh,ky⟩=e at *
       by_cases hr:0<=r
       ·rw [if_pos (hidx.1 hr)] at k3 hout
        repeat' ((conv=>whnf);first
        | refine Yz ?_
         | (apply zaf.of;first |exact h1|exact h2|exact h3|exact k1|exact k3)
         | (refine zb2 g w q (by omega) rfl ?_)
         | (refine Cmp.tt hwc ?_)
         | (refine zze g cl q (by omega) hq (fun h=>by rw [hR] at h;cases h) (fun c' h _ _=> ?_);rw [hR] at h;cases h)
         | (refine In.enter (f:=zdm) g.lim rfl rfl ?_)
         | (refine In.enter (f:=zar) g.lim rfl rfl ?_)
         | (refine hin _ ?_)
         | (refine zaf.of (zem g _ _) ?_)
         | (refine zaf.of (zey g _ _) ?_)
         | (refine zbk.mk ⟨rfl,rfl,rfl,rfl,rfl,rfl,by show (cl.length+1)*64<=_;omega,by omega⟩ ?_)
         | (refine zbk.mk ⟨rfl,Nat.le_refl _⟩ ?_)
         | (refine zb4.low rfl rfl (Nat.lt_succ_self 0) ?_)
         | (exact hout))
       ·rw [if_neg (fun h=>hr (hidx.2 h))] at k3 hout
        repeat' ((conv=>whnf);first
        | refine Yz ?_
         | (apply zaf.of;first |exact h1|exact h2|exact h3|exact k1|exact k3)
         | (refine zb2 g w q (by omega) rfl ?_)
         | (refine Cmp.tt hwc ?_)
         | (refine zze g cl q (by omega) hq (fun h=>by rw [hR] at h;cases h) (fun c' h _ _=> ?_);rw [hR] at h;cases h)
         | (refine In.enter (f:=zdm) g.lim rfl rfl ?_)
         | (refine In.enter (f:=zar) g.lim rfl rfl ?_)
         | (refine hin _ ?_)
         | (refine zaf.of (zem g _ _) ?_)
         | (refine zaf.of (zey g _ _) ?_)
         | (refine zbk.mk ⟨rfl,rfl,rfl,rfl,rfl,rfl,by show (cl.length+1)*64<=_;omega,by omega⟩ ?_)
         | (refine zbk.mk ⟨rfl,Nat.le_refl _⟩ ?_)
         | (refine zb4.low rfl rfl (Nat.lt_succ_self 0) ?_)
         | (exact hout))
    ·by_cases hwp:w=ynj
     ·rw [if_pos hwp] at hE1 hE3 hS2
      clear hE4 hS1
      have hE25:znd cl q=none->K (.tup [.agg [.ref ⟨0,40,0⟩ 0 0 0,I 0,I 0,I 0],B true,I 25]) (pM cl++[(⟨0,40,0⟩,.row true zaa 3 0 [])]):=fun h=>by
       rw [h] at hE1
       exact hE1 true 25 (by decide) rfl
      have hout:∀a b c:Int,znd cl q=some ⟨cl,a,c,b⟩->K (.tup [.agg [.ref ⟨0,6,0⟩ 0 cl.length cl.length,I a,I c,I b],B true,I (zap [0,if cl.length=0 then 12 else 0,zgf ⟨cl,a,c,b⟩])]) (pM cl):=fun a b c h=>by
       rw [h] at hE3 hS2
       simp only at hE3 hS2
       by_cases h0:cl=[]
       ·rw [if_pos h0] at hE3
        subst h0
        exact hE3 a c b 12 (by decide) rfl
       ·have h0':¬cl.length=0:=fun e=>h0 (List.eq_nil_of_length_eq_zero e)
        rw [if_neg h0] at hE3 hS2
        rw [if_neg h0']
        have ef:zap [0,0,zgf ⟨cl,a,c,b⟩]=zgf ⟨cl,a,c,b⟩:=by
         generalize zgf ⟨cl,a,c,b⟩=e
         by_cases he:e=0
         ·subst he;decide
         ·simp [zap,he]
        rw [ef]
        by_cases hz:zgf ⟨cl,a,c,b⟩=0
        ·rw [if_pos hz] at hS2
         rw [hz]
         exact hS2 a c b rfl
        ·rw [if_neg hz] at hE3
         exact hE3 a c b _ hz rfl
      clear hE1 hE3 hS2
      have hwi:=zp7 g
      by_cases h0:cl.length=0
      all_goals (first |rw [if_pos h0] at hout|rw [if_neg h0] at hout)
      all_goals repeat' ((conv=>whnf);first
      | refine Yz ?_
       | (apply zaf.of;first |exact h1|exact h2|exact h3)
       | (refine zb2 g w q (by omega) rfl ?_)
       | (refine Cmp.ff hwc ?_)
       | (refine Cmp.tt hwp ?_)
       | (refine yrn g cl q (by omega) (fun x hx=>(hq x hx).2) (fun h=> ?_) (fun h a b c=> ?_) (fun a b c h=> ?_))
       | (refine zb4.nrow (v':= .tup [.agg [.ref ⟨1,75,0⟩ 0 0 0,I 0,I 0,I 0],B false]) 0 rfl (by decide) rfl rfl rfl ?_)
       | (refine zb4.nrow (v':= .tup [.agg [.ref ⟨0,40,0⟩ 0 0 0,I 0,I 0,I 0],B true,I 25]) 0 rfl (by decide) rfl rfl rfl ?_)
       | (refine zb4.low rfl rfl (by decide) ?_)
       | (refine In.enter (f:=zdh) g.lim rfl rfl ?_)
       | (refine zaf.of (hwi _ _ _) ?_)
       | (refine zaf.of (zem g _ _) ?_)
       | (refine zaf.of (zpn g _ _ _) ?_)
       | (refine zbk.mk ⟨rfl,Nat.le_refl _⟩ ?_)
       | (refine Chk.mk (by simp [yao,yrh,z5v,yp1,zpe,Evl.look]) ?_)
       | (exact hE25 h)
       | (exact hout _ _ _ h))
     ·rw [if_neg hwp,if_neg hwc] at hE1
      have hE1:=hE1 false 25 (by decide) rfl
      repeat' ((conv=>whnf);first
      | refine Yz ?_
       | (apply zaf.of;first |exact h1|exact h2|exact h3)
       | (refine zb2 g w q (by omega) rfl ?_)
       | (refine Cmp.ff hwc ?_)
       | (refine Cmp.ff hwp ?_)
       | (refine zb4.nrow (v':= .tup [.agg [.ref ⟨0,40,0⟩ 0 0 0,I 0,I 0,I 0],B false,I 25]) 0 rfl (by decide) rfl rfl rfl ?_)
       | (exact hE1))
end
theorem yrw (L:List (List UInt8)):win ((L++[[]]).map D.str) (0*1) ((L.length-0)*1)=L.map D.str:=by
 unfold win
 rw [Nat.zero_mul,List.drop_zero,Nat.sub_zero,Nat.mul_one,List.map_append,List.take_left' (by simp)]
section
variable {E : Oracle} (g : Good E)
include g
theorem yaa (s:List UInt8) (hs:s.length<=1000000):Fc E zhx [S s,S [10]] (LS (aft 10 s)):=by
 have h0:Fc E n_strings_genSplit [S s,S [10],I 1,I (-1)] (LS (aft 10 s)):=Fc.extern g.lim (x:=genSplitX) rfl (v:=LS (aft 10 s)) (m':=[]) (by
  simp only [genSplitX]
  rw [if_pos (by simp;omega),show Int.toNat 1=1 from rfl,ycx]) rfl
 refine g.fn rfl rfl ?_
 repeat' ((conv=>whnf);first
 | refine Yz ?_
  | (apply zaf.of;assumption)
  | (refine Ret.mk rfl))
theorem yp9 (s:List UInt8) (hs:s.length<=1000000):Fc E zh1 [S s] (.tup [Pgv (rdP s).1,I ((rdP s).2.1:Nat),I (rdP s).2.2]):=by
 refine g.fn rfl rfl ?_
 unfold rdP
 by_cases hl:4096<s.length
 ·rw [if_pos hl]
  repeat' ((conv=>whnf);first
  | refine Yz ?_
   | (refine Ret.mk rfl))
 ·rw [if_neg hl]
  have h1:=yaa g s hs
  rw [yix] at h1
  have hlen:=z0t s
  have hne:=z5g s
  have hn:=yke s
  have hnil:¬(s=[]\/s.getLast? =some 10)->0<(pcs s).length:=fun h=>List.length_pos_iff.2 (yka fun e=>h (.inl e))
  generalize hG:rdG [] 0 (pcs s)=G
  generalize pcs s=L at *
  have key:∀ {K:Ex->Env->Mem->Prop},(∀(cl:List Cls) (e:Env) (m:Mem),G=(zo5,L.length,28)->K (.exit 0) [(2,.ptr ⟨0,2,1⟩ 0 0),(5,LS L),(6,.ptr ⟨0,6,1⟩ 0 0),(30,LS L),(31,I L.length),(32,I L.length),(33,B false)] (pM cl))->
    (∀e m,K .ret e m=zd6 m e [.cell 2 (some 4),.tmp 3,.tmp 4] fun v=>znm m v fun d=>Ret d (.tup [Pgv G.1,I (G.2.1:Nat),I G.2.2]))->
    zad E ⟨0,0+1⟩ [2,5,6,30,31,32] [⟨0,2,0⟩,⟨0,2,1⟩,⟨0,6,0⟩,⟨0,6,1⟩] zi5 [(2,.ptr ⟨0,2,1⟩ 0 0),(5,LS L),(6,.ptr ⟨0,6,1⟩ 0 0),(30,LS L),(31,I L.length),(32,I 0)] (pM []) K:=by
   intro K hK hret
   refine zad.to (zad.by (σ:=List Cls×Nat) g (fun q=>q.1.length<=16/\q.2<=L.length/\rdG q.1 q.2 (L.drop q.2)=G) (fun q=>[(2,.ptr ⟨0,2,1⟩ 0 0),(5,LS L),(6,.ptr ⟨0,6,1⟩ 0 0),(30,LS L),(31,I L.length),(32,I q.2)]) (fun q=>pM q.1) (fun q=>L.length-q.2) ?_ ([],0) ⟨by decide,Nat.zero_le _,hG⟩) rfl rfl
   rintro⟨cl,k⟩ ⟨hcl,hk,he⟩ ih
   dsimp only at hcl hk he ih ⊢
   by_cases hlt:k<L.length
   ·rw [List.drop_eq_getElem_cons hlt,rdG] at he
    have hll:=hlen _ (List.getElem_mem hlt)
    have hin:=fun {K}=>ysd g cl L[k] (by omega) hcl (K:=K)
    generalize hLk:L[k]=l at *
    have hE:∀e:Int,zjn cl l= .bad e->G=(zo5,k,e):=fun e h=>by rw [h] at he;exact he.symm
    have hS:∀c:Cls,zjn cl l= .cls c->zad E ⟨0,0+1⟩ [2,5,6,30,31,32] [⟨0,2,0⟩,⟨0,2,1⟩,⟨0,6,0⟩,⟨0,6,1⟩] zi5 [(2,.ptr ⟨0,2,1⟩ 0 0),(5,LS L),(6,.ptr ⟨0,6,1⟩ 0 0),(30,LS L),(31,I L.length),(32,I (k+1:Nat))] (pM (cl++[c])) K:=fun c h=>by
     rw [h] at he
     have:=(ygr h).2.1
     exact ih (cl++[c],k+1) ⟨by rw [List.length_append,List.length_singleton];omega,hlt,he⟩ (by dsimp only;omega)
    have hP:∀x y z:Int,zjn cl l= .pool ⟨cl,x,y,z⟩->G=if k+1<L.length then(zo5,k+1,25) else(⟨cl,x,y,z⟩,0,0):=fun x y z h=>by
     rw [h] at he
     rw [<-he]
     simp only
     by_cases hr:k+1<L.length
     ·rw [if_pos hr,if_neg]
      intro e
      have:=congrArg List.length e
      rw [List.length_drop,List.length_nil] at this
      omega
     ·rw [if_neg hr,if_pos (List.drop_eq_nil_of_le (by omega))]
    clear he ih hG
    by_cases hr:k+1<L.length
    all_goals (first |simp only [if_pos hr] at hP|simp only [if_neg hr] at hP)
    all_goals repeat' ((conv=>whnf);first
    | refine Yz ?_
     | (refine zcj.strI k rfl hlt ?_;rw [hLk])
     | (refine hin (fun b e h0 h=> ?_) (fun x y z e h0 h=> ?_) (fun c e h0 h=> ?_) (fun c h=> ?_) (fun x y z h=> ?_))
     | (cases ‹Bool›)
     | (refine zbk.mk ⟨rfl,Nat.le_refl _⟩ ?_)
     | (refine Cmp.ff h0 ?_)
     | (rw [hret,hE _ h])
     | (rw [hret,hP _ _ _ h])
     | (refine Ret.mk ?_)
     | (refine zad.to (hS c h) rfl ?_))
    all_goals (first |rfl|(rw [if_pos ⟨rfl,rfl⟩];rfl)|(dsimp only [pM];rw [List.length_append,List.flatMap_append];rfl))
   ·obtain rfl:k=L.length:=by omega
    rw [List.drop_length,rdG] at he
    have hK:=hK cl [] [] he.symm
    repeat' ((conv=>whnf);first
    | refine Yz ?_
     | (exact hK))
  by_cases ht:s=[]\/s.getLast? =some 10
  ·rw [if_pos ht] at h1
   have hl1:(L++[[]]).length=L.length+1:=by rw [List.length_append,List.length_singleton]
   have hat:(L++[[]])[L.length]'(by omega)=([]:List UInt8):=by simp
   have hwin:=yrw L
   repeat' ((conv=>whnf);first
   | refine Yz ?_
    | (apply zaf.of;assumption)
    | (refine zbk.mk (by omega) ?_)
    | (refine zcj.strI L.length (by omega) (by omega) ?_;rw [hat])
    | (refine Cmp.tt rfl ?_)
    | (refine zbe.at 0 L.length (by omega) (by omega) (by omega) ?_<;>(try dsimp only)<;>(rw [hwin]))
    | (refine zad.to (key (fun cl e m h=> ?_) (fun e m=>rfl)) rfl rfl)
    | (rw [h])
    | (refine Ret.mk rfl))
  ·rw [if_neg ht] at h1
   have h0:=hnil ht
   have hat:¬L[L.length-1]=[]:=hne _ (List.getElem_mem _)
   repeat' ((conv=>whnf);first
   | refine Yz ?_
    | (apply zaf.of;assumption)
    | (refine zbk.mk (by omega) ?_)
    | (refine zcj.strI (L.length-1) (by omega) (by omega) ?_)
    | (refine Cmp.ff hat ?_)
    | (refine zad.to (key (fun cl e m h=> ?_) (fun e m=>rfl)) rfl rfl)
    | (rw [h])
    | (refine Ret.mk rfl))
end
theorem ynr {p:Prg} (h:znu p=0) (hs:zxy p=true):10<=(yh2 p).length/\(yh2 p).length<=4096:=by
 have ok:=zjv h
 simp only [zxy,Bool.and_eq_true,decide_eq_true_eq] at hs
 have h5:p.cl.length<=5:=by
  have:=ok.many
  omega
 have key:∀l:List Cls,(∀c∈l,zu2 c)->(l.flatMap z9o).length<=l.length*621:=fun l=>by
  induction l with
  | nil=>intro _;exact Nat.le_refl _
  | cons c r ih=>
   intro hc
   have i1:=ih fun x hx=>hc x (List.mem_cons_of_mem _ hx)
   have i2:=yfv (hc c (List.mem_cons_self ..)) c.ky.length
   rw [List.flatMap_cons,List.length_append,List.length_cons,z9o,List.length_append,List.length_singleton]
   omega
 have h1:=key p.cl ok.cs
 have h2:=z97 p
 unfold yh2
 rw [List.length_append,List.length_append,List.length_singleton]
 constructor
 ·simp only [zo4,zcg,List.length_append,List.length_cons,List.length_nil]
  omega
 ·omega
theorem yeh {l:List Rqt} (h:∀x∈l,znb x=0) (hl:l.length<=64):ynz (zq5 l 100):=
 ⟨by show yba REQ=true;decide,by show ztm ysf yb9 100=0;decide+kernel,by show (l.map nwn).length<=64;rw [List.length_map];exact hl,by
  show (zfs REQ none 0 (l.map fun x=>⟨[78],x⟩)).2=0
  rw [ytm h]⟩
theorem ykh {l:List Rqt} (h:∀x∈l,znb x=0) (hu:(yun l).Nodup) (hl:l.length<=64):ygk [zq5 l 100]=(l.map fun x=>⟨x,false,100⟩,0,0):=by
 have m1:zra (zq5 l 100)=0:=znt.2 (yeh h hl)
 have e1:yce (zq5 l 100) (zq5 l 100) (zq5 l 100)=0:=by
  unfold yce
  rw [m1,if_pos (show (zq5 l 100).ki=REQ from rfl),if_pos ⟨rfl,rfl⟩,if_neg (Int.lt_irrefl _)]
  rfl
 have g1:zvp 100 [] (zq5 l 100).ls=(l.map fun x=>⟨x,false,100⟩,0):=yl3 100 l [] (fun _ _ h=>by cases h) hu (by simp;omega)
 show ygq (zq5 l 100) (zq5 l 100) 0 [] [zq5 l 100]=_
 rw [ygq,if_pos e1,show (zq5 l 100).da=100 from rfl,g1,if_pos rfl,ygq]
theorem yal {k:Nat}:∀(m:Nat) {ds:List D},zj9 (fit Tryz.prog (k+2)) (List.replicate m 98) ds->∃l:List Tst,ds=l.flatMap Tst.cells/\l.length=m
 | 0,ds,h=>⟨[],h,rfl⟩
 | m+1,ds,h=>by
  obtain⟨a,b,rfl,h1,h2⟩:=h
  obtain⟨x,rfl⟩:=ypc h1
  obtain⟨l,rfl,h3⟩:=yal m h2
  exact⟨x::l,rfl,by simp [h3]⟩
theorem ys1 {k:Nat} {ds:List D} (h:fit Tryz.prog (k+2) 99 ds):∃t:Kyt,ds=t.cells:=by
 obtain⟨_,_,rfl,h1,_,_,rfl,h2,rfl⟩:=z14 Tryz.underlying99 h
 obtain⟨s1,rfl⟩:=zm0 h1
 obtain⟨b,rfl⟩:=z8b h2
 exact⟨⟨s1,b⟩,rfl⟩
theorem ye4 {k:Nat}:∀(m:Nat) {ds:List D},zj9 (fit Tryz.prog (k+2)) (List.replicate m 99) ds->∃l:List Kyt,ds=l.flatMap Kyt.cells/\l.length=m
 | 0,ds,h=>⟨[],h,rfl⟩
 | m+1,ds,h=>by
  obtain⟨a,b,rfl,h1,h2⟩:=h
  obtain⟨x,rfl⟩:=ys1 h1
  obtain⟨l,rfl,h3⟩:=ye4 m h2
  exact⟨x::l,rfl,by simp [h3]⟩
theorem yku {k:Nat} {ds:List D} (h:fit Tryz.prog (k+4) 97 ds):∃c:Cls,ds=c.cells/\c.wh.length<=9223372036854775807/\c.ky.length<=9223372036854775807:=by
 obtain⟨_,_,rfl,h1,_,_,rfl,h2,_,_,rfl,h3,rfl⟩:=z14 Tryz.underlying97 h
 obtain⟨s1,rfl⟩:=zm0 h1
 obtain⟨m,cs,rfl,a1,h4⟩:=yn1 Tryz.underlying94 h2
 obtain⟨n,es,rfl,a2,h5⟩:=yn1 Tryz.underlying95 h3
 obtain⟨l,rfl,rfl⟩:=yal m h4
 obtain⟨q,rfl,rfl⟩:=ye4 n h5
 exact⟨⟨s1,l,q⟩,rfl,Nat.le_trans a1 (by decide),Nat.le_trans a2 (by decide)⟩
theorem z1o {k:Nat}:∀(m:Nat) {ds:List D},zj9 (fit Tryz.prog (k+4)) (List.replicate m 97) ds->∃l:List Cls,ds=l.flatMap Cls.cells/\l.length=m/\∀c∈l,c.wh.length<=9223372036854775807/\c.ky.length<=9223372036854775807
 | 0,ds,h=>⟨[],h,rfl,fun _ h=>by cases h⟩
 | m+1,ds,h=>by
  obtain⟨a,b,rfl,h1,h2⟩:=h
  obtain⟨x,rfl,b1⟩:=yku h1
  obtain⟨l,rfl,h3,b2⟩:=z1o m h2
  refine⟨x::l,rfl,by simp [h3],fun c hc=> ?_⟩
  rcases List.mem_cons.1 hc with rfl|hc
  ·exact b1
  ·exact b2 c hc
theorem ybk {x:D} (h:zmk Tryz.prog 24 x):∃p:Prg,x= .agg p.cells/\yw8 p:=by
 obtain⟨ds,rfl,_,_,rfl,h1,_,_,rfl,h2,_,_,rfl,h3,_,_,rfl,h4,rfl⟩:=ywb Tryz.underlying24 h
 obtain⟨m,cs,rfl,a1,h5⟩:=yn1 Tryz.underlying22 h1
 obtain⟨l,rfl,rfl,b1⟩:=z1o m h5
 obtain⟨n1,rfl,_⟩:=zkk h2
 obtain⟨n2,rfl,_⟩:=zkk h3
 obtain⟨n3,rfl,_⟩:=zkk h4
 exact⟨⟨l,n1,n2,n3⟩,rfl,Nat.le_trans a1 (by decide),b1⟩
theorem yog (l:List Clm):LQ (l.map (·.rq))= .d (.list l.length (l.flatMap fun c=>c.rq.cells)):=by
 show V.d (.list (l.map (·.rq)).length ((l.map (·.rq)).flatMap Rqt.cells))=_
 rw [List.length_map,List.flatMap_map]
theorem z6z {l:List Clm} {k:Nat} (h:k<l.length):(l.take (k+1)).flatMap (fun c=>c.rq.cells)=(l.take k).flatMap (fun c=>c.rq.cells)++l[k].rq.cells:=zlb (fun c:Clm=>c.rq.cells) l k h
abbrev coP (p:Prg):Evl.Id×Ob:=(⟨0,3,0⟩,.cells zat [LC p.cl,I p.cl.length,I p.of,I 0])
abbrev coX (b c:Int):Evl.Id×Ob:=(⟨0,5,0⟩,.cells z49 [.d (.int .u8 b),.d (.int .u8 c)])
abbrev coQ (p:Prg):Evl.Id×Ob:=(⟨0,11,0⟩,.cells zab [LC p.cl,I p.cl.length,I p.of,I 0])
section
variable {E : Oracle} (g : Good E)
include g
theorem z1x (p:Prg) (l:List Clm) (b c:Int) (hp:yw8 p) (hL:l.length<=9223372036854775807) (hb:0<=b/\b<=255) (hc:0<=c/\c<=255):
  Fc E zig [Pgv p,LM l,.d (.agg [.int .u8 b,.int .u8 c])] (B true):=by
 have ru:=z9e g
 obtain⟨f1,f2⟩:=z9r g p l hp hL
 refine g.fn rfl rfl ?_
 by_cases hf:ys4 p l
 ·have f1:=f1 hf
  by_cases h0:l.length=0
  ·repeat' ((conv=>whnf);first
  | refine Yz ?_
    | (apply zaf.of;assumption)
    | (exact Ret.mk rfl))
  ·obtain⟨hs,h6,_,hq,hz⟩:=hf
   have hq':=ykw hq
   have ok:=zjv hq'
   obtain⟨n1,n2⟩:=ynr (p:=zca p) hq' hs
   have p1:=yt3 g (zca p) hq'
   have p2:=yp9 g (yh2 (zca p)) (by omega)
   rw [yvi hq' n2] at p2
   have p0:=zro g (zca p) ok.small
   have rk:zv4 (zca p) (1+b) l=0:=by
    unfold zv4
    rw [hq',zcw.2 (by omega),hz]
    rfl
   obtain⟨s,hsr⟩:=yqp (yd5 rk)
   have hcr:0<=c%(l.length:Int)/\c%(l.length:Int)<l.length:=⟨Int.emod_nonneg _ (by omega),Int.emod_lt_of_pos _ (by omega)⟩
   obtain⟨a,ha⟩:∃a:Nat,c%(l.length:Int)=a:=⟨(c%(l.length:Int)).toNat,by omega⟩
   rw [ha] at hcr
   have p3:=yql g rk (by omega) hsr
   have p4:=ynn g (a:Int) rk (by omega) hsr (by omega)
   have hO:=z91 (p:=zca p) hsr.pm
   have hsl:=hsr.len
   have hle:∀ {j i:Nat},j<i->i<(zdc (zca p) l s).length->(dcP (zca p) (atC l ((zdc (zca p) l s).getD j 0)) (atC l ((zdc (zca p) l s).getD i 0))).1<=0:=fun {j i} hji hi=>ygh (p:=p) hsr.up hji (by rw [zim] at hi;exact hi)
   have p5:=zsw g l (by omega)
   have hleft:=fun(pos:Nat) (hp:pos<(zdc (zca p) l s).length) (hpa:(zdc (zca p) l s)[pos]=a)=>ybr g (p:=p) hq' hz h6 hO (by omega) hp hpa hle
   have hck:∀x∈l.map (·.rq),znb x=0:=fun x hx=>by
    obtain⟨y,hy,rfl⟩:=List.mem_map.1 hx
    exact(z45.1 ((zia hz).2.1 y hy)).1
   have hu:(yun (l.map (·.rq))).Nodup:=by
    have:=(zia hz).2.2
    unfold yun
    rw [List.map_map]
    exact this
   have hrl:(l.map (·.rq)).length=l.length:=List.length_map _
   have m1:=yeh hck (by omega)
   have ss:=yb1 g (l.map (·.rq)) 100 (by omega)
   have hrq:=ykh hck hu (by omega)
   have sr:=yc3 g [zq5 (l.map (·.rq)) 100] (by simp) (by rw [hrq];simp;omega) (fun m hm=>by
    rw [List.mem_singleton.1 hm]
    have q:=(yr4 m1).2
    have e:(zq5 (l.map (·.rq)) 100).ls.length=l.length:=by show ((l.map (·.rq)).map nwn).length=_;rw [List.length_map,hrl]
    exact⟨znt.2 m1,by omega⟩)
   rw [hrq] at sr
   have e1:(((l.map (·.rq)).map fun x=>(⟨x,false,100⟩:Ent)).map (·.rq))=l.map (·.rq):=by
    rw [List.map_map]
    exact List.map_id'' (fun _=>rfl) _
   dsimp only at sr
   rw [e1] at sr
   have s2:=z3i g (l.map (·.rq)) (by omega)
   have ss:Fc E zi8 [LQ (l.map (·.rq)),I 100] (.d (.agg [.str REQ,.str ysf,.str yb9,DI 100,.list ((l.map (·.rq)).map nwn).length (((l.map (·.rq)).map nwn).flatMap Lnt.cells)])):=ss
   have sr:Fc E zi9 [.d (.list 1 [.str REQ,.str ysf,.str yb9,DI 100,.list ((l.map (·.rq)).map nwn).length (((l.map (·.rq)).map nwn).flatMap Lnt.cells)])] (.tup [LQ (l.map (·.rq)),B true]):=sr
   generalize ((l.map (·.rq)).map nwn).flatMap Lnt.cells=cs at *
   generalize ((l.map (·.rq)).map nwn).length=nc at *
   rw [yog] at ss sr s2
   clear m1 hrq e1
   generalize hRR:zdc (zca p) l s=R at *
   have hRl:=hO.len
   have p6:=yas g l.length R hO (by omega)
   have p7:=z5p g R R (by omega)
   rw [decide_eq_true rfl] at p7
   have hmem:(a:Int)∈R:=hO.perm.mem_iff.2 (zhw.2 (by omega))
   have p4':∀k (hk:k<R.length),R[k]=a->(∀j (hj:j<R.length),j<k->R[j]≠a)->yum R a=R.take k:=fun k hk h1 h2=>by
    unfold yum
    congr 1
    rw [List.findIdx_eq hk]
    exact⟨by simpa using h1,fun j hj=>by simpa using h2 j (by omega) hj⟩
   generalize hbl:yum R a=bl at *
   have hbR:bl.length<=R.length:=by rw [<-hbl];unfold yum;rw [List.length_take];omega
   generalize yh2 (zca p)=t at *
   have p0:Fc E zd5 [.d (.agg [.list p.cl.length (p.cl.flatMap Cls.cells),DI p.cl.length,DI p.of,DI 0])] (.d (.agg [.list p.cl.length (p.cl.flatMap Cls.cells),DI p.cl.length,DI p.of,DI 0])):=p0
   have p1:Fc E zh6 [.d (.agg [.list p.cl.length (p.cl.flatMap Cls.cells),DI p.cl.length,DI p.of,DI 0])] (.tup [S t,I 0]):=p1
   have p2:Fc E zh1 [S t] (.tup [.d (.agg [.list p.cl.length (p.cl.flatMap Cls.cells),DI p.cl.length,DI p.of,DI 0]),I 0,I 0]):=p2
   have p3:Fc E zdy [.d (.agg [.list p.cl.length (p.cl.flatMap Cls.cells),DI p.cl.length,DI p.of,DI 0]),I (1+b),LM l] (.tup [LI R,I 0]):=p3
   have p4:Fc E zhi [.d (.agg [.list p.cl.length (p.cl.flatMap Cls.cells),DI p.cl.length,DI p.of,DI 0]),I (1+b),LM l,I a] (.tup [LI bl,I 0]):=p4
   have hleft:∀(pos:Nat) (hp:pos<R.length),R[pos]=a->Fc E ziz [.d (.agg [.list p.cl.length (p.cl.flatMap Cls.cells),DI p.cl.length,DI p.of,DI 0]),LM l,I a,LI R] (B true):=hleft
   clear hck hu hrl hsr hq' hle hz
   repeat' ((conv=>whnf);first
   | refine Yz ?_
    | (apply zaf.of;assumption)
    | (rw [ha]))
   refine zad.to (zad.up g (fun k=>[(1,LM l),(3,.ptr ⟨0,3,0⟩ 0 0),(7,I (1+b)),(8,I a),(10,I 0),(11,.ptr ⟨0,11,0⟩ 0 0),(13,I 0),(14,LI R),(15,I 0),(16,.ref ⟨0,16,0⟩ 0 k k),(76,LM l),(77,I l.length),(78,I k)]) (fun k=>[coP p,coX b c,coQ p,(⟨0,16,0⟩,.row false zbo 13 k ((l.take k).flatMap fun c=>c.rq.cells))]) l.length (fun k hk ih=> ?_) 0 (Nat.zero_le _)) rfl rfl
   by_cases hlt:k<l.length
   ·have ih:=ih hlt
    have hfl:=za2 (fun c:Clm=>c.rq.cells) 13 (fun _=>rfl) (l.take k)
    rw [List.length_take,Nat.min_eq_left hk] at hfl
    rw [z6z hlt] at ih
    repeat' ((conv=>whnf);first
    | refine Yz ?_
     | (refine za0.rec Clm.cells_length k rfl hlt ?_)
     | (refine zbk.mk ⟨rfl,rfl,rfl,rfl,rfl,rfl,by show (k+1)*152<=_;omega,by omega⟩ ?_)
     | (refine zad.to ih rfl rfl))
   ·obtain rfl:k=l.length:=by omega
    rw [List.take_length]
    clear ih
    repeat' ((conv=>whnf);first
    | refine Yz ?_
     | (apply zaf.of;assumption)
     | (rw [if_pos (⟨rfl,rfl⟩:_/\_)]))
    refine zad.to (zad.up g (fun k=>[(1,LM l),(3,.ptr ⟨0,3,0⟩ 0 0),(7,I (1+b)),(8,I a),(11,.ptr ⟨0,11,0⟩ 0 0),(14,LI R),(19,.d (.list l.length (l.flatMap fun c=>c.rq.cells))),(21,.ref ⟨0,21,0⟩ 0 k k),(128,LM l),(129,I l.length),(130,I k)]) (fun k=>[coP p,coX b c,coQ p,(⟨0,16,0⟩,.row false zbo 13 l.length (l.flatMap fun c=>c.rq.cells)),(⟨0,21,0⟩,.row false zal 18 k ((l.take k).flatMap Clm.cells))]) l.length (fun k hk ih=> ?_) 0 (Nat.zero_le _)) rfl rfl
    by_cases hlt:k<l.length
    ·have ih:=ih hlt
     have hfl:=za2 Clm.cells 18 Clm.cells_length (l.take k)
     rw [List.length_take,Nat.min_eq_left hk] at hfl
     rw [zlb Clm.cells l k hlt] at ih
     repeat' ((conv=>whnf);first
     | refine Yz ?_
      | (refine za0.rec Clm.cells_length k rfl hlt ?_)
      | (refine za0.rec (cell:=fun c:Clm=>c.rq.cells) (fun _=>rfl) k rfl hlt ?_)
      | (refine zbk.mk ⟨rfl,rfl,rfl,rfl,rfl,rfl,by show (k+1)*168<=_;omega,by omega⟩ ?_)
      | (refine zad.to ih rfl rfl))
    ·obtain rfl:k=l.length:=by omega
     rw [List.take_length]
     clear ih
     repeat' ((conv=>whnf);first
     | refine Yz ?_
      | (apply zaf.of;assumption)
      | (rw [if_pos (⟨rfl,rfl⟩:_/\_)]))
     refine zad.to (zad.upP g (fun k=>[(1,LM l),(3,.ptr ⟨0,3,0⟩ 0 0),(8,I a),(14,LI R),(26,LI bl),(172,LI R),(173,I R.length),(174,I k)]) (fun _=>[coP p,coX b c,coQ p,(⟨0,16,0⟩,.row false zbo 13 l.length (l.flatMap fun c=>c.rq.cells)),(⟨0,21,0⟩,.row false zal 18 l.length (l.flatMap Clm.cells))]) (fun k=>∀j (hj:j<R.length),j<k->R[j]≠a) R.length (fun k hk hP ih=> ?_) 0 (Nat.zero_le _) (fun j _ h=>absurd h (Nat.not_lt_zero _))) rfl rfl
     by_cases hlt:k<R.length
     ·by_cases he:R[k]=a
      ·have e:=p4' k hlt he hP
       have hbk:bl.length=k:=by rw [e,List.length_take];omega
       have hwin:win (R.map DI) (0*1) ((k-0)*1)=bl.map DI:=by
        rw [e,Nat.zero_mul,Nat.sub_zero,Nat.mul_one]
        unfold win
        rw [List.drop_zero,List.map_take]
       have q1:=z5p g bl bl (by omega)
       rw [decide_eq_true rfl] at q1
       have q1:∀ {n:Nat} {ds:List D},n=bl.length->ds=bl.map DI->Fc E zed [LI bl,.d (.list n ds)] (B true):=fun h1 h2=>by subst h1 h2;exact q1
       have q2:=hleft k hlt he
       repeat' ((conv=>whnf);first
       | refine Yz ?_
        | (refine zcj.intI k rfl hlt ?_)
        | (refine Cmp.tt he ?_)
        | (refine zbe.at 0 k rfl rfl (by omega) ?_)
        | (refine zaf.of (q1 (by omega) hwin) ?_)
        | (apply zaf.of;assumption)
        | (exact Ret.mk rfl))
      ·have ih:=ih hlt fun j hj hjk=>by
        by_cases ej:j=k
        ·subst ej;exact he
        ·exact hP j hj (by omega)
       repeat' ((conv=>whnf);first
       | refine Yz ?_
        | (refine zcj.intI k rfl hlt ?_)
        | (refine Cmp.ff he ?_)
        | (refine zad.to ih rfl rfl))
     ·obtain⟨j,hj,e⟩:=List.getElem_of_mem hmem
      exact absurd e (hP j hj (by omega))
 ·have f2:=f2 hf
  repeat' ((conv=>whnf);first
  | refine Yz ?_
   | (apply zaf.of;assumption)
   | (exact Ret.mk rfl))
end
theorem ymm {E:Oracle} (g:Good E) {xs:List D} (h:z52 Tryz.prog [24,25,26] xs):Fc E zig (asV xs) (B true):=by
 obtain⟨x,y,z,rfl,h1,h2,h3⟩:=yxl h
 obtain⟨p,rfl,hp⟩:=ybk h1
 obtain⟨l,rfl,hl⟩:=yhx h2
 obtain⟨ds,rfl,_,_,rfl,h5,_,_,rfl,h6,rfl⟩:=yvg Tryz.underlying26 h3
 obtain⟨b,rfl,wb⟩:=yre Tryz.underlying5 h5
 obtain⟨c,rfl,wc⟩:=yre Tryz.underlying5 h6
 simp only [Lit.wf,Bool.and_eq_true,decide_eq_true_eq] at wb wc
 exact z1x g p l b c hp hl wb wc
end Go.Proofs.YthmfkkpmjcbgeabGreatDoor.Co
