/-
  OfficeCollects returns true, for every argument: the law, and the last part of what it leans on.
-/
import Derived.Laws.RangeAny
import Derived.Lib.SplitLaws
import Derived.Test.YtmbofbehkalgkaaGreatDoorAwR
import Derived.Test.YtmbofbehkalgkaaGreatDoorEvX
import Derived.Test.YtmbofbehkalgkaaGreatDoorEvY
import Derived.Test.YtmbofbehkalgkaaGreatDoorRead
import Derived.Test.YtmbofbehkalgkaaGreatDoorSpBase
import Derived.Test.YtmbofbehkalgkaaGreatDoorOcd
namespace Go.Proofs.YtmbofbehkalgkaaGreatDoor.Co
open Go Go.Evl
set_option maxHeartbeats 32000000
set_option maxRecDepth 100000
section
variable {E : Oracle} (g : Good E)
include g
abbrev mTn (c:Nat) (xs:List Nte):Mem:=[(⟨0,4,0⟩,.row false zab 4 0 []),(⟨0,54,c⟩,.row false zab 4 xs.length (xs.flatMap Nte.cells))]
abbrev eT (l:List Nte) (v:V) (k:Int):Env:=[(0,LNt l),(4,v),(47,LNt l),(48,I l.length),(49,I k)]
theorem yme (l:List Nte) (h:0<l.length) {K:Ex->Env->Mem->Prop} (hK:zal E ⟨0,1⟩ [0,4,47,48,49] [⟨0,4,0⟩] zbm (eT l (.ref ⟨0,54,0⟩ 0 1 1) 1) (mTn 0 [l[0]]) K):
  zal E ⟨0,1⟩ [0,4,47,48,49] [⟨0,4,0⟩] zbm (eT l (.ref ⟨0,4,0⟩ 0 0 0) 0) [(⟨0,4,0⟩,.row false zab 4 0 [])] K:=by
 refine zal.step g.lim ?_
 repeat' ((conv=>whnf);first
 | refine Yz ?_
  | (refine zgd.rec zh9 0 rfl h ?_)
  | (refine zal.to hK rfl rfl)
  | fail)
theorem ymf (l:List Nte) (hl:l.length<=12) (k:Nat) (h:k<l.length) (c:Nat) (hc:c<=12) (xs:List Nte) (hx:xs.length<=12) {K:Ex->Env->Mem->Prop} (hK:zal E ⟨0,1⟩ [0,4,47,48,49] [⟨0,4,0⟩] zbm (eT l (.ref ⟨0,54,c+1⟩ 0 (xs.length+1) (xs.length+1)) (k+1)) (mTn (c+1) (l[k]::xs)) K):
  zal E ⟨0,1⟩ [0,4,47,48,49] [⟨0,4,0⟩] zbm (eT l (.ref ⟨0,54,c⟩ 0 xs.length xs.length) k) (mTn c xs) K:=by
 refine zal.step g.lim ?_
 have hfl:Unit->(xs.flatMap Nte.cells).length=xs.length*4:=fun _=>zar Nte.cells 4 zh9 xs
 rcases (by omega:c=0\/c=1\/c=2\/c=3\/c=4\/c=5\/c=6\/c=7\/c=8\/c=9\/c=10\/c=11\/c=12) with rfl|rfl|rfl|rfl|rfl|rfl|rfl|rfl|rfl|rfl|rfl|rfl|rfl
 all_goals
  repeat' ((conv=>whnf);first
  | refine Yz ?_
   | (refine zgd.rec zh9 k rfl h ?_)
   | (refine zju.mk ⟨rfl,rfl,rfl,rfl,rfl,by rw [if_pos ⟨rfl,rfl⟩];exact hfl (),by dsimp only;omega,by omega⟩ ?_)
   | (refine zal.to hK (by simp [Nat.add_comm]) (by simp [Nat.add_comm,Nte.cells]))
   | fail)
omit g in
theorem Br.fE {b:Bool} {p q:Prop} (h:b=false) (k:q):Br b p q:=by subst h;exact Br.ff k
omit g in
theorem Mt {A B:Prop}:(b:Bool)->b=true->A->(match b with|true=>A|false=>B)
 | true,_,k=>k
 | false,h,_=>Bool.noConfusion h
abbrev gB (c rn:Nat) (rl:List D):Mem:=[(⟨0,4,0⟩,.row false zab 4 0 []),(⟨0,54,c⟩,.row false zab 4 rn rl)]
abbrev kB (c:Nat):List Evl.Id:=[⟨0,4,0⟩,⟨0,54,c⟩]
omit g in
theorem iB (c:Nat):idB ⟨0,54,c⟩ ⟨0,54,c⟩=true:=by simp [idB]
omit g in
theorem mB (c:Nat):z9n (kB c) ⟨0,54,c⟩=true:=by simp [z9n,idB]
theorem yip (l s:List Nte) (hl:s.length<=1000) (hs:s.Pairwise fun a b=>ztp a b=true) (c rn:Nat) (rl:List D) {K:Ex->Env->Mem->Prop}
  (hK:∀e,e=[(0,LNt l),(7,LNt s),(105,I s.length),(106,I s.length),(107,B false)]->K (.exit 2) e (gB c rn rl)):
  zal E ⟨0,1⟩ [0,7,105,106] (kB c) zhz [(0,LNt l),(7,LNt s),(105,I s.length),(106,I 0)] (gB c rn rl) K:=by
 refine zal.to (zal.up g (fun k=>[(0,LNt l),(7,LNt s),(105,I s.length),(106,I k)]) (fun _=>gB c rn rl) s.length (fun k hk ih=> ?_) 0 (Nat.zero_le _)) rfl rfl
 by_cases hlt:k<s.length
 ·have ih:=ih hlt
  by_cases h0:k=0
  ·subst h0
   repeat' ((conv=>whnf);first
   | refine Yz ?_
    | (refine Mt _ (mB c) ?_)
    | (refine zal.to ih rfl rfl)
    | fail)
  ·have hlt1:k-1<s.length:=by omega
   have ho:=(zx2 _ _).1 (List.pairwise_iff_getElem.1 hs (k-1) k hlt1 hlt (by omega))
   have hp:0<k:=by omega
   have hi:(k:Int)-1=((k-1:Nat):Int):=by omega
   rcases ho with h1|⟨h1,h2|⟨h2,h3⟩⟩
   ·repeat' ((conv=>whnf);first
   | refine Yz ?_
     | (refine ziz.rec zh9 k rfl hlt rfl ?_)
     | (refine ziz.rec0 zh9 k rfl hlt rfl ?_)
     | (refine ziz.rec zh9 (k-1) hi hlt1 rfl ?_)
     | (refine ziz.rec0 zh9 (k-1) hi hlt1 rfl ?_)
     | (refine Mt _ (mB c) ?_)
     | (refine zal.to ih rfl rfl)
     | fail)
   ·have n1:zaq s[k].dk s[k-1].dk=false:=zn7 _ _ h2
    have n2:¬s[k].dk=s[k-1].dk:=fun e=>by rw [e,zes] at h2;cases h2
    repeat' ((conv=>whnf);first
    | refine Yz ?_
     | (refine ziz.rec zh9 k rfl hlt rfl ?_)
     | (refine ziz.rec0 zh9 k rfl hlt rfl ?_)
     | (refine ziz.rec zh9 (k-1) hi hlt1 rfl ?_)
     | (refine ziz.rec0 zh9 (k-1) hi hlt1 rfl ?_)
     | (refine Br.fE n1 ?_)
     | (refine Cmp.ff n2 ?_)
     | (refine Mt _ (mB c) ?_)
     | (refine zal.to ih rfl rfl)
     | fail)
   ·have n1:zaq s[k].dk s[k-1].dk=false:=by rw [h2];exact zes _
    repeat' ((conv=>whnf);first
    | refine Yz ?_
     | (refine ziz.rec zh9 k rfl hlt rfl ?_)
     | (refine ziz.rec0 zh9 k rfl hlt rfl ?_)
     | (refine ziz.rec zh9 (k-1) hi hlt1 rfl ?_)
     | (refine ziz.rec0 zh9 (k-1) hi hlt1 rfl ?_)
     | (refine Br.fE n1 ?_)
     | (refine Cmp.tt h2.symm ?_)
     | (refine Mt _ (mB c) ?_)
     | (refine zal.to ih rfl rfl)
     | fail)
 ·obtain rfl:k=s.length:=by omega
  repeat' ((conv=>whnf);first
  | refine Yz ?_
   | (exact hK _ rfl)
   | fail)
theorem yl1 (l s:List Nte) (hsl:s.length<=1000) (n:Nte) (a c rn:Nat) (rl:List D) {K:Ex->Env->Mem->Prop}
  (hK:∀e,e=[(0,LNt l),(7,LNt s),(15,.ptr ⟨0,15,0⟩ 0 0),(16,B (decide (n∈s))),(182,LNt l),(183,I l.length),(184,I a),(188,LNt s),(189,I s.length),(190,I s.length),(191,B false)]->K (.exit 6) e (gB c rn rl++[(⟨0,15,0⟩,.cells zab [S n.dk,I n.nu,I n.da,S n.tx])])):
  zal E ⟨0,1⟩ [0,7,15,16,182,183,184,188,189,190] (kB c++[⟨0,15,0⟩]) zh0
   [(0,LNt l),(7,LNt s),(15,.ptr ⟨0,15,0⟩ 0 0),(16,B false),(182,LNt l),(183,I l.length),(184,I a),(188,LNt s),(189,I s.length),(190,I 0)] (gB c rn rl++[(⟨0,15,0⟩,.cells zab [S n.dk,I n.nu,I n.da,S n.tx])]) K:=by
 refine zal.to (zal.upP g (fun j=>[(0,LNt l),(7,LNt s),(15,.ptr ⟨0,15,0⟩ 0 0),(16,B (decide (n∈s.take j))),(182,LNt l),(183,I l.length),(184,I a),(188,LNt s),(189,I s.length),(190,I j)])
  (fun j=>gB c rn rl++[(⟨0,15,0⟩,.cells zab [S n.dk,I n.nu,I n.da,S n.tx])]) (fun _=>True) s.length (fun j hj _ ih=> ?_) 0 (Nat.zero_le _) trivial) rfl rfl
 have mB':z9n (kB c++[⟨0,15,0⟩]) ⟨0,54,c⟩=true:=by simp [z9n,idB]
 by_cases hlt:j<s.length
 ·have ih:=ih hlt trivial
  have e:n∈s.take (j+1)↔n∈s.take j\/n=s[j]:=by
   rw [List.take_add_one,List.getElem?_eq_getElem hlt,List.mem_append]
   simp
  by_cases h1:n∈s.take j
  ·have h2:n∈s.take (j+1):=e.2 (.inl h1)
   rw [decide_eq_true h2] at ih
   rw [decide_eq_true h1]
   repeat' ((conv=>whnf);first
   | refine Yz ?_
    | (refine zgd.rec zh9 j rfl hlt ?_)
    | (refine Mt _ mB' ?_)
    | (refine zal.to ih rfl rfl)
    | fail)
  ·rw [decide_eq_false h1]
   by_cases h2:n=s[j]
   ·have h3:n∈s.take (j+1):=e.2 (.inr h2)
    rw [decide_eq_true h3] at ih
    have h4:s[j].dk=n.dk/\s[j].nu=n.nu/\s[j].da=n.da/\s[j].tx=n.tx:=by rw [<-h2];exact⟨rfl,rfl,rfl,rfl⟩
    repeat' ((conv=>whnf);first
    | refine Yz ?_
     | (refine zgd.rec zh9 j rfl hlt ?_)
     | (refine Cmp.tt h4 ?_)
     | (refine Mt _ mB' ?_)
     | (refine zal.to ih rfl rfl)
     | fail)
   ·have h3:¬n∈s.take (j+1):=fun h=>(e.1 h).elim h1 h2
    rw [decide_eq_false h3] at ih
    have h4:¬(s[j].dk=n.dk/\s[j].nu=n.nu/\s[j].da=n.da/\s[j].tx=n.tx):=fun h=>h2 (Nte.ext4 h).symm
    repeat' ((conv=>whnf);first
    | refine Yz ?_
     | (refine zgd.rec zh9 j rfl hlt ?_)
     | (refine Cmp.ff h4 ?_)
     | (refine Mt _ mB' ?_)
     | (refine zal.to ih rfl rfl)
     | fail)
 ·obtain rfl:j=s.length:=by omega
  rw [List.take_length]
  repeat' ((conv=>whnf);first
  | refine Yz ?_
   | (exact hK _ rfl)
   | fail)
theorem yiq (l s:List Nte) (hl:l.length<=1000) (hsl:s.length<=1000) (hm:∀n∈l,n∈s) (c rn:Nat) (rl:List D) {K:Ex->Env->Mem->Prop}
  (hK:∀e,e=[(0,LNt l),(7,LNt s),(182,LNt l),(183,I l.length),(184,I l.length),(185,B false)]->K (.exit 4) e (gB c rn rl)):
  zal E ⟨0,1⟩ [0,7,182,183,184] (kB c) zh1 [(0,LNt l),(7,LNt s),(182,LNt l),(183,I l.length),(184,I 0)] (gB c rn rl) K:=by
 refine zal.to (zal.up g (fun a=>[(0,LNt l),(7,LNt s),(182,LNt l),(183,I l.length),(184,I a)]) (fun _=>gB c rn rl) l.length (fun a ha ih=> ?_) 0 (Nat.zero_le _)) rfl rfl
 by_cases hlt:a<l.length
 ·have ih:=ih hlt
  have h3:=fun {K}=>yl1 g l s hsl l[a] a c rn rl (K:=K)
  have h5:=hm l[a] (List.getElem_mem hlt)
  rw [decide_eq_true h5] at h3
  repeat' ((conv=>whnf);first
  | refine Yz ?_
   | (refine zgd.rec zh9 a rfl hlt ?_)
   | (refine Mt _ (mB c) ?_)
   | (refine h3 (fun e he=> ?_);subst he)
   | (refine zal.to ih rfl rfl)
   | fail)
 ·obtain rfl:a=l.length:=by omega
  repeat' ((conv=>whnf);first
  | refine Yz ?_
   | (exact hK _ rfl)
   | fail)
abbrev gW (c rn:Nat) (rl:List D) (w:List Nte):Mem:=gB c rn rl++[(⟨0,216,0⟩,.row false zab 4 w.length (w.flatMap Nte.cells))]
abbrev gX (c rn:Nat) (rl:List D) (w:List Nte) (d:List UInt8) (xs:List Int):Mem:=gW c rn rl w++[(⟨0,24,0⟩,.cells zao [S d,LI xs])]
abbrev kW (c:Nat):List Evl.Id:=kB c++[⟨0,216,0⟩]
abbrev kX (c:Nat):List Evl.Id:=kW c++[⟨0,24,0⟩]
omit g in
theorem mW (c:Nat):z9n (kW c) ⟨0,54,c⟩=true:=by simp [z9n,idB]
omit g in
theorem mX (c:Nat):z9n (kX c) ⟨0,54,c⟩=true:=by simp [z9n,idB]
theorem yl2 (l w:List Nte) (hl:l.length<=1000) (cnt:Int) (ms:List (List UInt8×List Int)) (a b:Int) (d:List UInt8) (xs:List Int) (x:Int) (hno:∀o∈l,¬(o.dk=d/\o.nu=x)) (c rn:Nat) (rl:List D) {K:Ex->Env->Mem->Prop}
  (hK:∀e,e=[(0,LNt l),(21,.ref ⟨0,216,0⟩ 0 w.length w.length),(22,I cnt),(24,.ptr ⟨0,24,0⟩ 0 0),(26,I x),(219,LMs ms),(220,I ms.length),(221,I a),(226,LI xs),(227,I xs.length),(228,I b),(232,LNt l),(233,I l.length),(234,I l.length),(235,B false)]->K (.exit 12) e (gX c rn rl w d xs)):
  zal E ⟨0,1⟩ [0,21,22,24,26,219,220,221,226,227,228,232,233,234] (kX c) zh2
   [(0,LNt l),(21,.ref ⟨0,216,0⟩ 0 w.length w.length),(22,I cnt),(24,.ptr ⟨0,24,0⟩ 0 0),(26,I x),(219,LMs ms),(220,I ms.length),(221,I a),(226,LI xs),(227,I xs.length),(228,I b),(232,LNt l),(233,I l.length),(234,I 0)] (gX c rn rl w d xs) K:=by
 refine zal.to (zal.up g (fun j=>[(0,LNt l),(21,.ref ⟨0,216,0⟩ 0 w.length w.length),(22,I cnt),(24,.ptr ⟨0,24,0⟩ 0 0),(26,I x),(219,LMs ms),(220,I ms.length),(221,I a),(226,LI xs),(227,I xs.length),(228,I b),(232,LNt l),(233,I l.length),(234,I j)])
  (fun _=>gX c rn rl w d xs) l.length (fun j hj ih=> ?_) 0 (Nat.zero_le _)) rfl rfl
 by_cases hlt:j<l.length
 ·have ih:=ih hlt
  have hn:=hno l[j] (List.getElem_mem hlt)
  by_cases h1:l[j].dk=d
  ·have h2:¬l[j].nu=x:=fun e=>hn ⟨h1,e⟩
   repeat' ((conv=>whnf);first
   | refine Yz ?_
    | (refine zgd.rec zh9 j rfl hlt ?_)
    | (refine Cmp.tt h1 ?_)
    | (refine Cmp.ff h2 ?_)
    | (refine Mt _ (mX c) ?_)
    | (refine zal.to ih rfl rfl)
    | fail)
  ·repeat' ((conv=>whnf);first
  | refine Yz ?_
    | (refine zgd.rec zh9 j rfl hlt ?_)
    | (refine Cmp.ff h1 ?_)
    | (refine Mt _ (mX c) ?_)
    | (refine zal.to ih rfl rfl)
    | fail)
 ·obtain rfl:j=l.length:=by omega
  repeat' ((conv=>whnf);first
  | refine Yz ?_
   | (exact hK _ rfl)
   | fail)
abbrev mkN (d:List UInt8) (x:Int):Nte:=⟨d,x,5,[120]⟩
theorem yl3 (l w:List Nte) (hl:l.length<=1000) (hwl:w.length<=100000000) (cnt:Int) (hc:0<=cnt/\cnt<=100000000) (ms:List (List UInt8×List Int)) (a:Int) (d:List UInt8) (xs:List Int) (hx:xs.length<=1000) (hno:∀x∈xs,∀o∈l,¬(o.dk=d/\o.nu=x)) (c rn:Nat) (rl:List D) {K:Ex->Env->Mem->Prop}
  (hK:∀e,e=[(0,LNt l),(21,.ref ⟨0,216,0⟩ 0 (w++xs.map (mkN d)).length (w++xs.map (mkN d)).length),(22,I (cnt+xs.length)),(24,.ptr ⟨0,24,0⟩ 0 0),(219,LMs ms),(220,I ms.length),(221,I a),(226,LI xs),(227,I xs.length),(228,I xs.length),(229,B false)]->K (.exit 10) e (gX c rn rl (w++xs.map (mkN d)) d xs)):
  zal E ⟨0,1⟩ [0,21,22,24,219,220,221,226,227,228] (kX c) zh3
   [(0,LNt l),(21,.ref ⟨0,216,0⟩ 0 w.length w.length),(22,I cnt),(24,.ptr ⟨0,24,0⟩ 0 0),(219,LMs ms),(220,I ms.length),(221,I a),(226,LI xs),(227,I xs.length),(228,I 0)] (gX c rn rl w d xs) K:=by
 refine zal.to (zal.up g (fun b=>[(0,LNt l),(21,.ref ⟨0,216,0⟩ 0 (w++(xs.take b).map (mkN d)).length (w++(xs.take b).map (mkN d)).length),(22,I (cnt+b)),(24,.ptr ⟨0,24,0⟩ 0 0),(219,LMs ms),(220,I ms.length),(221,I a),(226,LI xs),(227,I xs.length),(228,I b)])
  (fun b=>gX c rn rl (w++(xs.take b).map (mkN d)) d xs) xs.length (fun b hb ih=> ?_) 0 (Nat.zero_le _)) (by simp) (by simp)
 by_cases hlt:b<xs.length
 ·have ih:=ih hlt
  have e:w++(xs.take (b+1)).map (mkN d)=(w++(xs.take b).map (mkN d))++[mkN d xs[b]]:=by
   rw [List.take_add_one,List.getElem?_eq_getElem hlt,List.map_append,<-List.append_assoc]
   rfl
  rw [e] at ih
  have hvl:(w++(xs.take b).map (mkN d)).length<=200000000:=by
   rw [List.length_append,List.length_map,List.length_take];omega
  generalize w++(xs.take b).map (mkN d)=v at *
  have h5:=fun {K}=>yl2 g l v hl (cnt+b) ms a b d xs xs[b] (hno _ (List.getElem_mem hlt)) c rn rl (K:=K)
  have hfl:Unit->(v.flatMap Nte.cells).length=v.length*4:=fun _=>zar Nte.cells 4 zh9 v
  simp only [gX,gW,List.flatMap_append,List.length_append] at ih
  repeat' ((conv=>whnf);first
  | refine Yz ?_
   | (refine ziz.intI b rfl hlt ?_)
   | (refine Mt _ (mX c) ?_)
   | (refine h5 (fun e he=> ?_);subst he)
   | (refine zal.to ih (by simp [Int.add_assoc]) (by simp [Nte.cells]))
   | fail)
 ·obtain rfl:b=xs.length:=by omega
  rw [List.take_length]
  repeat' ((conv=>whnf);first
  | refine Yz ?_
   | (exact hK _ rfl)
   | fail)
theorem yl4 (l:List Nte) (hl:l.length<=1000) (ms:List (List UInt8×List Int)) (hms:ms.length<=1000) (hx:∀p∈ms,p.2.length<=1000) (hno:∀p∈ms,∀x∈p.2,∀o∈l,¬(o.dk=p.1/\o.nu=x)) (c rn:Nat) (rl:List D) {K:Ex->Env->Mem->Prop}
  (hK:∀e,e=[(0,LNt l),(21,.ref ⟨0,216,0⟩ 0 (l++zop ms).length (l++zop ms).length),(22,I (zop ms).length),(219,LMs ms),(220,I ms.length),(221,I ms.length),(222,B false)]->K (.exit 8) e (gW c rn rl (l++zop ms))):
  zal E ⟨0,1⟩ [0,21,22,219,220,221] (kW c) zh4
   [(0,LNt l),(21,.ref ⟨0,216,0⟩ 0 l.length l.length),(22,I 0),(219,LMs ms),(220,I ms.length),(221,I 0)] (gW c rn rl l) K:=by
 have hnl:∀k,k<=ms.length->(zop (ms.take k)).length<=k*1000:=by
  intro k
  induction k with
  | zero=>intro _;simp [zop]
  | succ k ih=>
   intro hk
   have h1:=ih (by omega)
   have h2:=hx ms[k] (List.getElem_mem (by omega))
   unfold zop at h1 ⊢
   rw [List.take_add_one,List.getElem?_eq_getElem (by omega),List.flatMap_append,List.length_append]
   simp only [Option.toList_some,List.flatMap_cons,List.flatMap_nil,List.append_nil,List.length_map]
   omega
 refine zal.to (zal.up g (fun k=>[(0,LNt l),(21,.ref ⟨0,216,0⟩ 0 (l++zop (ms.take k)).length (l++zop (ms.take k)).length),(22,I (zop (ms.take k)).length),(219,LMs ms),(220,I ms.length),(221,I k)])
  (fun k=>gW c rn rl (l++zop (ms.take k))) ms.length (fun k hk ih=> ?_) 0 (Nat.zero_le _)) (by simp [zop]) (by simp [zop])
 by_cases hlt:k<ms.length
 ·have ih:=ih hlt
  have e:zop (ms.take (k+1))=zop (ms.take k)++ms[k].2.map (mkN ms[k].1):=by
   unfold zop
   rw [List.take_add_one,List.getElem?_eq_getElem hlt,List.flatMap_append]
   simp
  have hn:=hnl k hk
  have h2:=hx ms[k] (List.getElem_mem hlt)
  have h3:=hno ms[k] (List.getElem_mem hlt)
  rw [e,<-List.append_assoc] at ih
  have hwl:(l++zop (ms.take k)).length<=100000000:=by rw [List.length_append];omega
  have h6:=fun {K}=>yl3 g l (l++zop (ms.take k)) hl hwl (zop (ms.take k)).length (by omega) ms k ms[k].1 ms[k].2 h2 h3 c rn rl (K:=K)
  rw [@List.length_append _ (zop (ms.take k)),List.length_map] at ih
  generalize l++zop (ms.take k)=v at *
  generalize zop (ms.take k)=u at *
  repeat' ((conv=>whnf);first
  | refine Yz ?_
   | (refine zgd.rec (cell:=ycr) (fun _=>rfl) k rfl hlt ?_)
   | (refine Mt _ (mW c) ?_)
   | (refine h6 (fun e he=> ?_);subst he)
   | (refine zal.to ih (by simp) rfl)
   | fail)
 ·obtain rfl:k=ms.length:=by omega
  rw [List.take_length]
  repeat' ((conv=>whnf);first
  | refine Yz ?_
   | (exact hK _ rfl)
   | fail)
theorem yk5 (l:List Nte) (hl:l.length<=12) {K:Ex->Env->Mem->Prop} (hK:K (.exit 0) (eT l (.ref ⟨0,54,l.length-1⟩ 0 l.length l.length) l.length++[(50,B false)]) (mTn (l.length-1) l.reverse)):∀d k,k+d=l.length->1<=k->
  zal E ⟨0,1⟩ [0,4,47,48,49] [⟨0,4,0⟩] zbm (eT l (.ref ⟨0,54,k-1⟩ 0 k k) k) (mTn (k-1) (l.take k).reverse) K
 | 0,k,hd,h1=>by
  obtain rfl:k=l.length:=by omega
  rw [List.take_length]
  refine zal.step g.lim ?_
  repeat' ((conv=>whnf);first
  | refine Yz ?_
   | (exact hK)
   | fail)
 | d+1,k,hd,h1=>by
  have hk:k<l.length:=by omega
  have hlen:(l.take k).reverse.length=k:=by rw [List.length_reverse,List.length_take];omega
  have ih:=yk5 l hl hK d (k+1) (by omega) (by omega)
  have e:(l.take (k+1)).reverse=l[k]::(l.take k).reverse:=by
   rw [List.take_add_one,List.getElem?_eq_getElem hk]
   simp
  rw [e,show k+1-1=k-1+1 by omega] at ih
  have h:=ymf g l hl k hk (k-1) (by omega) (l.take k).reverse (by omega) (K:=K) (zal.to ih (by rw [hlen];rfl) rfl)
  rw [hlen] at h
  exact h
end
def i64 (n:Int):Prop:= -9223372036854775808<=n/\n<=9223372036854775807
theorem yk8 {n:Int} (h:(Lit.int .i64 n).wf=true):i64 n:=by
 simp only [Lit.wf,Bool.and_eq_true,decide_eq_true_eq] at h
 exact h
section
variable {P : Program} {n : Nat} {t : Nat} {ds : List D} {x : D}
theorem ylx {k:IntKind} (ht:P.underlying t=some (.int k)) (h:fit P (n+1) t ds):∃i,ds=[.int k i]/\(Lit.int k i).wf=true:=by
 simp only [fit,ht] at h;exact h
theorem ykb (ht:P.underlying t=some .string) (h:fit P (n+1) t ds):∃s,ds=[.str s]/\s.length<=maxLen:=by
 simp only [fit,ht] at h;exact h
theorem yly {e:Nat} (ht:P.underlying t=some (.slice e)) (h:fit P (n+1) t ds):∃m cs,ds=[.list m cs]/\m<=maxLen/\zo5 (fit P n) (List.replicate m e) cs:=by
 simp only [fit,ht] at h;exact h
theorem ykc {fs:Array Field} (ht:P.underlying t=some (.struct fs)) (h:fit P (n+1) t ds):zo5 (fit P n) (fs.toList.map (·.type)) ds:=by
 simp only [fit,ht] at h;exact h
theorem ylp {e:Nat} (ht:P.underlying t=some (.slice e)) (h:zxn P t x):∃m cs,x= .list m cs/\m<=maxLen/\zo5 (fit P 7) (List.replicate m e) cs:=by
 simp only [zxn,ht] at h
 obtain⟨m,cs,e,h1,h2⟩:=yly (n:=7) ht h
 exact⟨m,cs,by simpa using e,h1,h2⟩
end
theorem yc3 {k:Nat} {ds:List D} (h:fit Tryz.prog (k+1) 3 ds):∃n,ds=[DI n]/\i64 n:=by
 obtain⟨n,rfl,hw⟩:=ylx Tryz.underlying3 h
 exact⟨n,rfl,yk8 hw⟩
theorem ylq {P:Program} {t:Nat} {xs:List D} (h:z1p P [t] xs):∃x,xs=[x]/\zxn P t x:=by
 obtain⟨x,_,rfl,h1,rfl⟩:=h
 exact⟨x,rfl,h1⟩
theorem yf0 {k:Nat} {ds:List D} (h:fit Tryz.prog (k+3) 29 ds):∃n:Nte,ds=n.cells:=by
 obtain⟨_,_,rfl,h1,_,_,rfl,h2,_,_,rfl,h3,_,_,rfl,h4,rfl⟩:=ykc Tryz.underlying29 h
 obtain⟨s1,rfl,_⟩:=ykb Tryz.underlying9 h1
 obtain⟨n,rfl,_⟩:=yc3 h2
 obtain⟨d,rfl,_⟩:=yc3 h3
 obtain⟨s2,rfl,_⟩:=ykb Tryz.underlying9 h4
 exact⟨⟨s1,n,d,s2⟩,rfl⟩
theorem z36 {k:Nat}:∀(m:Nat) {ds:List D},zo5 (fit Tryz.prog (k+3)) (List.replicate m 29) ds->∃l:List Nte,ds=l.flatMap Nte.cells/\l.length=m
 | 0,ds,h=>⟨[],h,rfl⟩
 | m+1,ds,h=>by
  obtain⟨a,b,rfl,h1,h2⟩:=h
  obtain⟨x,rfl⟩:=yf0 h1
  obtain⟨l,rfl,h3⟩:=z36 m h2
  exact⟨x::l,rfl,by simp [h3]⟩
theorem yck {x:D} (h:zxn Tryz.prog 22 x):∃l:List Nte,x= .list l.length (l.flatMap Nte.cells):=by
 obtain⟨m,cs,rfl,_,h'⟩:=ylp Tryz.underlying22 h
 obtain⟨l,rfl,rfl⟩:=z36 m h'
 exact⟨l,rfl⟩
section
variable {E : Oracle} (g : Good E)
include g
omit g in
theorem Fc.arg {f:Nat} {a b r:V} (h:Fc E f [a] r) (e:a=b):Fc E f [b] r:=e▸h
theorem z2x (aw:Fc E zeg [] (B true)):Fc E zd1 [LNt []] (B true):=by
 have h1:=z78 g [] (by simp)
 have h2:=z90 g [] 12
 have h3:=z9z g [] (by simp)
 have h4:=zwc g [] (by simp) rfl .nil (by simp [zef]) [] (List.Perm.refl _) .nil
 have h5:Fc E zde [.d .nil] (.tup [.d .nil,I 0]):=g.compR 1000 (by decide+kernel)
 have h6:Fc E zeh [.d .nil] (LNt []):=g.compR 1000 (by decide+kernel)
 have h7:=yed g [] (by simp)
 have h8:=ybl g
 refine g.fn rfl rfl ?_
 repeat' ((conv=>whnf);first
 | refine Yz ?_
  | (apply za1.of;assumption)
  | (refine zal.step g.lim ?_)
  | (refine za1.of (Fc.arg h4 rfl) ?_)
  | (refine za1.of (Fc.arg h8 rfl) ?_)
  | (refine Ret.mk rfl)
  | fail)
omit g in
theorem yii {l:List Nte} (hz:ze8 l=0) {n:Nte} (hn:n∈l):grN (zef l)≠[]:=fun h=>by
 have hI:=z4a hz
 rw [h] at hI
 have key:∀(q:List Nte),(∃m∈q,m.dk=n.dk)->∃m∈q,m.dk=n.dk/\∀o∈q,o.dk=n.dk->o.nu<=m.nu:=by
  intro q
  induction q with
  | nil=>rintro⟨_,h,_⟩;cases h
  | cons y r ih=>
   intro hx
   by_cases hr:∃m∈r,m.dk=n.dk
   ·obtain⟨m,h1,h2,h3⟩:=ih hr
    by_cases hy:y.dk=n.dk/\m.nu<y.nu
    ·exact⟨y,by simp,hy.1,fun o ho hd=>by
      rcases List.mem_cons.1 ho with rfl|ho
      ·exact Int.le_refl _
      ·have:=h3 o ho hd;omega⟩
    ·exact⟨m,by simp [h1],h2,fun o ho hd=>by
      rcases List.mem_cons.1 ho with rfl|ho
      ·have:¬m.nu<o.nu:=fun hh=>hy ⟨hd,hh⟩
       omega
      ·exact h3 o ho hd⟩
   ·obtain⟨m,hm,hd⟩:=hx
    have hmy:m=y:=by
     rcases List.mem_cons.1 hm with e|hm
     ·exact e
     ·exact absurd ⟨m,hm,hd⟩ hr
    exact⟨y,by simp,hmy▸hd,fun o ho hd'=>by
     rcases List.mem_cons.1 ho with rfl|ho
     ·exact Int.le_refl _
     ·exact absurd ⟨o,ho,hd'⟩ hr⟩
 obtain⟨m,h1,h2,h3⟩:=key (zef l) ⟨n,(zex hz).2 hn,rfl⟩
 have:=(hI.val n.dk m.nu).2 ⟨⟨m,by simpa using h1,h2,rfl⟩,fun o ho=>h3 o (by simpa using ho)⟩
 simp [zsr] at this
theorem z0l (l:List Nte) (hl:l.length<=999) (hz:ze8 l=0) (hf:∀p∈grN (zef l),p.2<=1000) {n:Nte} (hn:n∈l):Fc E zcf [LNt l] (.tup [LMs (zu3 l),I 0]):=by
 have hne:=yii hz hn
 have hlen:=z6p (zef l) []
 have hcl:=z8q l
 cases hg:grN (zef l) with
 | nil=>exact absurd hg hne
 | cons p gr=>
  obtain⟨k,v⟩:=p
  have h:=ybm g rfl l (by omega) hz hf k v gr hg (by
   have:(grN (zef l)).length<=([]:Grt).length+(zef l).length:=hlen
   rw [hg,List.length_cons,List.length_nil] at this
   omega)
  exact h
omit g in
theorem z8m {a b:List Nte} (ha:ze8 a=0) (hb:b.length<=256) (h:∀n∈b,n∈a):ze8 b=0:=by
 obtain⟨_,h2,h3⟩:=zjl.1 ha
 exact zjl.2 ⟨hb,fun n hn=>h2 n (h n hn),fun x hx y hy=>h3 x (h x hx) y (h y hy)⟩
omit g in
theorem yf9 (l:List Nte):(zu3 l).length<=(zef l).length:=by
 have h1:=z6p (zef l) []
 have h2:=(zfv ((grN (zef l)).map (·.1))).length_eq
 unfold zu3 zyp
 refine Nat.le_trans (List.length_filter_le _ _) ?_
 rw [List.length_map,h2,List.length_map]
 unfold grN
 simpa using h1
omit g in
theorem ydq {l:List Nte} (hz:ze8 l=0) (hf:∀p∈grN (zef l),p.2<=1000):∀p∈zu3 l,p.2.length<=1000:=by
 have hI:=z4a hz
 have hp:=zfv ((grN (zef l)).map (·.1))
 intro p h
 unfold zu3 zyp at h
 obtain⟨e,he,rfl⟩:=List.mem_map.1 (List.mem_filter.1 h).1
 obtain⟨q,hq,rfl⟩:=List.mem_map.1 (hp.mem_iff.1 he)
 obtain⟨a,b⟩:=q
 have hg:=(zjw hI.one).2 hq
 have:=hf _ hq
 dsimp only at this ⊢
 rw [hg]
 refine Nat.le_trans (z15 _ _ _) ?_
 simp only [Option.getD_some]
 omega
theorem yb4 (l:List Nte) (hlb:l.length<=1048576) (aw:Fc E zeg [] (B true)):Fc E zd1 [LNt l] (B true):=by
 have h1:=z78 g l hlb
 have h2:=z90 g l 12
 have h3:=z9z g l hlb
 by_cases hl:l.length<=12
 ·cases hs:yjl l 12 with
  | false=>
   rw [hs] at h2
   refine g.fn rfl rfl ?_
   repeat' ((conv=>whnf);first
   | refine Yz ?_
    | (apply za1.of;assumption)
    | (refine Ret.mk rfl)
    | fail)
  | true=>
   rw [hs] at h2
   by_cases hz:ze8 l=0
   ·by_cases hne:l=[]
    ·subst hne
     exact z2x g aw
    ·rw [hz] at h3
     have hpos:0<l.length:=List.length_pos_iff.2 hne
     have hn0:l[0]∈l:=List.getElem_mem hpos
     obtain⟨s,hsd⟩:∃s,s=yll (zef l):=⟨_,rfl⟩
     have hsp:s.Perm (zef l):=hsd▸zyk _
     have hso:s.Pairwise fun a b=>ztp a b=true:=hsd▸yah _ (zpv l)
     clear hsd
     have hcl:=z8q l
     have hsl:=hsp.length_eq
     have hms:∀n,n∈s↔n∈l:=fun n=>hsp.mem_iff.trans (zex hz)
     have hsne:s≠[]:=fun e=>by
      have:=(hms l[0]).2 hn0
      rw [e] at this;cases this
     have hgs:gN s=LNt s:=by
      cases s with
      | nil=>exact absurd rfl hsne
      | cons _ _=>rfl
     have g1:=zwc g l (by omega) hz (zpv l) (by omega) s hsp hso
     have hzt:ze8 (l.reverse++l)=0:=z8m hz (by rw [List.length_append,List.length_reverse];omega) fun n hn=>by
      rcases List.mem_append.1 hn with hn|hn
      ·exact List.mem_reverse.1 hn
      ·exact hn
     have hpt:(zef (l.reverse++l)).Perm (zef l):=z3r hzt hz fun n=>by simp
     have g2:=zwc g (l.reverse++l) (by rw [List.length_append,List.length_reverse];omega) hzt (zpv _) (by rw [hpt.length_eq];omega) s (hsp.trans hpt.symm) hso
     have hzs:ze8 s=0:=z8m hz (by omega) fun n hn=>(hms n).1 hn
     have hps:(zef s).Perm (zef l):=z3r hzs hz hms
     have g3:=zwc g s (by omega) hzs (zpv _) (by rw [hps.length_eq];omega) s (hsp.trans hps.symm) hso
     rw [hgs] at g1 g2 g3
     have k1:=z78 g s (by omega)
     have k2:=yed g s (by omega)
     have hrl:l.reverse.length=l.length:=List.length_reverse
     have em:mTn (l.length-1) l.reverse=gB (l.length-1) l.length (l.reverse.flatMap Nte.cells):=by
      simp only [mTn,hrl]
     have ht:∀ {K:Ex->Env->Mem->Prop},K (.exit 0) (eT l (.ref ⟨0,54,l.length-1⟩ 0 l.length l.length) l.length++[(50,B false)]) (gB (l.length-1) l.length (l.reverse.flatMap Nte.cells))->zal E ⟨0,1⟩ [0,4,47,48,49] [⟨0,4,0⟩] zbm (eT l (.ref ⟨0,4,0⟩ 0 0 0) 0) [(⟨0,4,0⟩,.row false zab 4 0 [])] K:=fun {K} hK=>by
      rw [<-em] at hK
      refine yme g l hpos ?_
      have h:=yk5 g l hl hK (l.length-1) 1 (by omega) (by omega)
      have e:(l.take 1).reverse=[l[0]]:=by
       rw [List.take_add_one,List.getElem?_eq_getElem hpos];rfl
      rw [e] at h
      exact h
     generalize hc:l.length-1=c at *
     have hfr:Unit->(l.reverse.flatMap Nte.cells).length=l.length*4:=fun _=>by rw [zar Nte.cells 4 zh9,hrl]
     have hfl:Unit->(l.flatMap Nte.cells).length=l.length*4:=fun _=>zar Nte.cells 4 zh9 l
     clear em
     by_cases hfar:∃p∈grN (zef l),1000<p.2
     ·obtain⟨v,h4⟩:=z2m g l hlb hz hfar
      refine g.fn rfl rfl ?_
      repeat' ((conv=>whnf);first
      | refine Yz ?_
       | (apply za1.of;assumption)
       | (refine ht ?_)
       | (refine Mt _ (iB c) ?_)
       | (refine Mt _ (mB c) ?_)
       | (refine zju.mk ⟨rfl,rfl,rfl,rfl,rfl,hfl (),by dsimp only;omega,by omega⟩ ?_)
       | (refine za1.of (Fc.arg g2 (by simp)) ?_)
       | (refine yip g l s (by omega) hso c _ _ (fun e he=> ?_);subst he)
       | (refine yiq g l s (by omega) (by omega) (fun n hn=>(hms n).2 hn) c _ _ (fun e he=> ?_);subst he)
       | (refine Ret.mk rfl)
       | fail)
     ·have hf:∀p∈grN (zef l),p.2<=1000:=fun p hp=>Int.not_lt.1 fun h=>hfar ⟨p,hp,h⟩
      have h4:=z0l g l (by omega) hz hf hn0
      have a1:=yf9 l
      have a2:=ydq hz hf
      have a3:∀p∈zu3 l,∀x∈p.2,∀o∈l,¬(o.dk=p.1/\o.nu=x):=fun p hp x hx o ho=>yiu hz (d:=p.1) (xs:=p.2) hp hx ho
      have h7:=fun {rn rl K}=>yl4 g l (by omega) (zu3 l) (by omega) a2 a3 c rn rl (K:=K)
      by_cases hn:(zop (zu3 l)).length<=200
      ·have hW:=yg4 hz hf (by omega)
       have h6:=z0l g (l++zop (zu3 l)) (by rw [List.length_append];omega) hW.ok hW.low (List.mem_append_left _ hn0)
       rw [hW.none] at h6
       have hfw:Unit->((l++zop (zu3 l)).flatMap Nte.cells).length=(l++zop (zu3 l)).length*4:=fun _=>zar Nte.cells 4 zh9 _
       clear hW a2 a3
       generalize zu3 l=ms at *
       generalize l++zop ms=w at *
       generalize (zop ms).length=cnt at *
       refine g.fn rfl rfl ?_
       repeat' ((conv=>whnf);first
       | refine Yz ?_
        | (apply za1.of;assumption)
        | (refine ht ?_)
        | (refine Mt _ (iB c) ?_)
        | (refine Mt _ (mB c) ?_)
        | (refine Mt _ (mW c) ?_)
        | (refine zju.mk ⟨rfl,rfl,rfl,rfl,rfl,hfl (),by dsimp only;omega,by omega⟩ ?_)
        | (refine za1.of (Fc.arg g2 (by simp)) ?_)
        | (refine za1.of (Fc.arg h6 (by simp)) ?_)
        | (refine yip g l s (by omega) hso c _ _ (fun e he=> ?_);subst he)
        | (refine yiq g l s (by omega) (by omega) (fun n hn=>(hms n).2 hn) c _ _ (fun e he=> ?_);subst he)
        | (refine zal.to (h7 (rn:=l.length+l.length) (rl:=l.reverse.flatMap Nte.cells++l.flatMap Nte.cells) (fun e he=> ?_)) (by simp) (by simp);subst he)
        | (refine Ret.mk rfl)
        | fail)
      ·generalize zu3 l=ms at *
       refine g.fn rfl rfl ?_
       repeat' ((conv=>whnf);first
       | refine Yz ?_
        | (apply za1.of;assumption)
        | (refine ht ?_)
        | (refine Mt _ (iB c) ?_)
        | (refine Mt _ (mB c) ?_)
        | (refine Mt _ (mW c) ?_)
        | (refine zju.mk ⟨rfl,rfl,rfl,rfl,rfl,hfl (),by dsimp only;omega,by omega⟩ ?_)
        | (refine za1.of (Fc.arg g2 (by simp)) ?_)
        | (refine yip g l s (by omega) hso c _ _ (fun e he=> ?_);subst he)
        | (refine yiq g l s (by omega) (by omega) (fun n hn=>(hms n).2 hn) c _ _ (fun e he=> ?_);subst he)
        | (refine zal.to (h7 (rn:=l.length+l.length) (rl:=l.reverse.flatMap Nte.cells++l.flatMap Nte.cells) (fun e he=> ?_)) (by simp) (by simp);subst he)
        | (refine Ret.mk rfl)
        | fail)
   ·refine g.fn rfl rfl ?_
    repeat' ((conv=>whnf);first
    | refine Yz ?_
     | (apply za1.of;assumption)
     | (refine Cmp.tt hz ?_)
     | (refine Ret.mk rfl)
     | fail)
 ·refine g.fn rfl rfl ?_
  repeat' ((conv=>whnf);first
  | refine Yz ?_
   | (apply za1.of;assumption)
   | (refine Ret.mk rfl)
   | fail)
end
theorem ycc {E:Oracle} (g:Good E) {xs:List D} (h:z1p Tryz.prog [22] xs) (hb:zje 1048576 xs):Fc E zd1 (asV xs) (B true):=by
 obtain⟨x,rfl,h1⟩:=ylq h
 obtain⟨l,rfl⟩:=yck h1
 exact yb4 g l hb.1.1 (yjf g)
end Go.Proofs.YtmbofbehkalgkaaGreatDoor.Co
