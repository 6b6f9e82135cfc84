/-
  OfficeRulings returns true, for every argument: the law, and the last part of what it leans on.
-/
import Derived.Laws.RangeAny
import Derived.Lib.SplitLaws
import Derived.Test.YtcbddkeiohdocaaGreatDoorAwR
import Derived.Test.YtcbddkeiohdocaaGreatDoorEvX
import Derived.Test.YtcbddkeiohdocaaGreatDoorEvY
import Derived.Test.YtcbddkeiohdocaaGreatDoorRead
import Derived.Test.YtcbddkeiohdocaaGreatDoorSpBase
import Derived.Test.YtcbddkeiohdocaaGreatDoorTra
/-
 Rulings, plain: the journal with a ruling, with what follows it, and with its reverse.
-/
namespace Go.Proofs.YtcbddkeiohdocaaGreatDoor.Co
open Go Go.Evl
def xN (k:Nat):List UInt8:=List.replicate (k+1) 120
def ownK:Nat→List (List UInt8)
 | 0=>[sTop]
 | k+1=>ownK k++[xN k]
def baseK (c:List Int) (k:Nat):List UInt8:=(ownK k).getD ((c.getD k 0).toNat%(k+1)) []
def evsK (l:List Evt) (c:List Int):Nat→List Evt
 | 0=>l++[evR l.length (rgL l).kn]
 | k+1=>evsK l c k++[evF (evsK l c k).length (rgL l).kn (xN k) (baseK c k) 601]
theorem ownK_len:∀k,(ownK k).length=k+1
 | 0=>rfl
 | k+1=>by rw [ownK,List.length_append,ownK_len k];rfl
theorem xN_name {k:Nat} (h:k<4):isNameB (xN k)=true:=by
 have:k=0∨k=1∨k=2∨k=3:=by omega
 rcases this with rfl|rfl|rfl|rfl<;>decide
theorem xN_not {k:Nat} (h:k<4):xN k∉ownK k:=by
 have:k=0∨k=1∨k=2∨k=3:=by omega
 rcases this with rfl|rfl|rfl|rfl<;>decide
theorem ownK_name:∀ {k:Nat},k≤4→∀s∈ownK k,isNameB s=true
 | 0,_,s,hs=>by
  have:s=sTop:=by simpa [ownK] using hs
  subst this;decide
 | k+1,h,s,hs=>by
  rcases List.mem_append.1 hs with hs|hs
  ·exact ownK_name (by omega) s hs
  ·rw [List.mem_singleton] at hs;subst hs;exact xN_name (by omega)
theorem sY_not {k:Nat} (h:k≤4):([121]:List UInt8)∉ownK k:=by
 have:k=0∨k=1∨k=2∨k=3∨k=4:=by omega
 rcases this with rfl|rfl|rfl|rfl|rfl<;>decide
theorem base_lt (c:List Int) (k:Nat):(c.getD k 0).toNat%(k+1)<(ownK k).length:=by
 rw [ownK_len];exact Nat.mod_lt _ (by omega)
theorem baseK_eq (c:List Int) (k:Nat):baseK c k=(ownK k)[(c.getD k 0).toNat%(k+1)]'(base_lt c k):=by
 unfold baseK
 rw [List.getD_eq_getElem?_getD,List.getElem?_eq_getElem (base_lt c k)]
 rfl
structure Base (l:List Evt):Prop where
 er:erL l=0
 le:l.length≤16
 bd:∀e∈l,e.ns.length≤1000000∧e.vs.length≤1000000
 dy:0≤(rgL l).kn∧(rgL l).kn≤99999
 tp:entI (rgL l).es sTop= -1
 xs:∀k,k<4→entI (rgL l).es (xN k)= -1
structure EvK (l L:List Evt) (own:List (List UInt8)):Prop where
 er:erL L=0
 le:L.length=l.length+own.length
 bd:∀e∈L,e.ns.length≤1000000∧e.vs.length≤1000000
 ri:RulI (rgL l) (rgL L) own
theorem rg_len {L:List Evt} (h:erL L=0):(rgL L).es.length≤L.length:=by
 have:=replG_es L rg0 0 h
 simp only [rg0,List.length_nil,Nat.zero_add] at this
 exact this
theorem Base.rme {l:List Evt} (h:Base l):RmE (rgL l):=replG_rme l rg0 0 ⟨by simp [rg0],by simp [rg0]⟩ h.er
theorem evsK_ok {l:List Evt} (h:Base l) (c:List Int):∀k,k≤4→EvK l (evsK l c k) (ownK k)
 | 0,_=>by
  have hle:=h.le
  have hrl:=rg_len h.er
  obtain⟨e1,e2⟩:=er_snoc (e:=evR l.length (rgL l).kn) h.er (step_zero (chk_R (by omega) h.dy) (by
   rw [acc_R _ _ (Int.le_refl _) h.dy.2]
   exact ask_zero h.tp (by omega) (fun h=>absurd h (by decide)) (by decide) (by decide) (by decide) (by decide)))
  refine⟨e1,by simp [evsK,ownK],fun e he=> ?_,?_⟩
  ·rcases List.mem_append.1 he with he|he
   ·exact h.bd e he
   ·rw [List.mem_singleton] at he;subst he;exact⟨by simp [evR],by simp [evR]⟩
  ·have:rgL (evsK l c 0)=aftE (rgL l) (evR l.length (rgL l).kn):=e2
   rw [this]
   exact rul_start h.tp _
 | k+1,hk=>by
  obtain⟨a1,a2,a3,a4⟩:=evsK_ok h c k (by omega)
  have hle:=h.le
  have hol:=ownK_len k
  have hrl:=rg_len a1
  have ho:OkR (rgL (evsK l c k)):=rgL_ok (by omega) a1
  have hb:=rul_base h.rme ho a4 (base_lt c k)
  rw [←baseK_eq] at hb
  have hfr:=rul_fresh a4 (h.xs k (by omega)) (xN_not (by omega))
  obtain⟨e1,e2⟩:=er_snoc (e:=evF (evsK l c k).length (rgL l).kn (xN k) (baseK c k) 601) a1 (step_zero (chk_F (by omega) h.dy (xN_name (by omega)) (by rw [baseK_eq];exact ownK_name (by omega) _ (List.getElem_mem _)) (by decide)) (by
   rw [acc_F _ _ _ _ _ (by rw [a4.kn];exact Int.le_refl _) h.dy.2]
   exact ask_zero hfr (by omega) (fun _=>hb) (by decide) (by decide) (by decide) (by decide)))
  refine⟨e1,?_,fun e he=> ?_,?_⟩
  ·rw [evsK,ownK,List.length_append,List.length_append,a2];rfl
  ·rcases List.mem_append.1 he with he|he
   ·exact a3 e he
   ·rw [List.mem_singleton] at he;subst he;exact⟨by simp [evF],by simp [evF]⟩
  ·have:rgL (evsK l c (k+1))=aftE (rgL (evsK l c k)) (evF (evsK l c k).length (rgL l).kn (xN k) (baseK c k) 601):=e2
   rw [this,ownK,baseK_eq]
   exact rul_more a4 (h.xs k (by omega)) (xN_not (by omega)) (base_lt c k) _
theorem replG_kn:∀(l:List Evt) (r:Rgs) (n:Nat),(replG r n l).2.2=0→0≤r.kn∧r.kn≤99999→0≤(replG r n l).1.kn∧(replG r n l).1.kn≤99999
 | [],_,_,_,h=>h
 | e::l,r,n,h,hk=>by
  rw [replG_cons] at h ⊢
  by_cases hs:stepE r n e≠0
  ·rw [if_pos hs] at h;exact absurd h hs
  ·rw [if_neg hs] at h ⊢
   refine replG_kn l _ _ h ?_
   obtain⟨_,h2⟩:=step_ok (Decidable.byContradiction hs)
   obtain⟨_,h3,h4,_⟩:=acc_ok h2
   rw [aft_kn]
   omega
structure RulP (l L:List Evt) (own:List (List UInt8)):Prop where
 f1:cntL (rgL L) (rgL l).kn=cntL (rgL l) (rgL l).kn++own
 f2:rstL (rgL L) sTop=own.tail
 f3:¬entI (rgL L).es sTop<0
 f4:erL (L++[evV L.length (rgL l).kn])=0
 f5:cntL (rgL (L++[evV L.length (rgL l).kn])) (rgL l).kn=cntL (rgL l) (rgL l).kn
 f6:minE (rgL L) sS (rgL l).kn 5=if own.length=1 then 600 else 601
 f7:¬minE (rgL (L++[evV L.length (rgL l).kn])) sS (rgL l).kn 5<0
 f8:erA (L++[evV L.length (rgL l).kn]) (evV (L.length+1) (rgL l).kn)=20
 f9:entI (rgL l).es [121]= -1→∀b∈own,erA (L++[evV L.length (rgL l).kn]) (evF (L.length+1) (rgL l).kn [121] b 5)=20
theorem erA_acc {l:List Evt} {e:Evt} (h:erL l=0) (hc:chkE e=0) (hl:l.length<1000):erA l e=accE (rgL l) l.length e:=by
 unfold erA
 rw [h,hc,if_neg (show ¬ 1000≤l.length by omega)]
 exact if_neg (fun hn=>hn rfl)
theorem rul_all {l:List Evt} (h:Base l) (c:List Int) {k:Nat} (hk:k≤4):RulP l (evsK l c k) (ownK k):=by
 obtain⟨a1,a2,a3,a4⟩:=evsK_ok h c k hk
 have hle:=h.le
 have hol:=ownK_len k
 have hrl:=rg_len a1
 have ho:OkR (rgL (evsK l c k)):=rgL_ok (by omega) a1
 have ho0:OkR (rgL l):=rgL_ok (by omega) h.er
 have hyn:=sY_not hk
 have hon:=fun b hb=>ownK_name hk b hb
 generalize evsK l c k=L at *
 generalize ownK k=own at *
 have hp:0<own.length:=by omega
 obtain⟨t1,t2⟩:=rul_kind a4 hp
 have hbase:=rul_base h.rme ho a4 hp
 have h0:own[0]=sTop:=by
  have:=a4.hd
  rw [List.head?_eq_getElem?,List.getElem?_eq_getElem hp] at this
  exact Option.some.inj this
 rw [h0] at hbase
 have hkn:=a4.kn
 have hV:∀r:Rgs,entI r.es sTop=((rgL l).es.length:Nat)→(r.es.getD (rgL l).es.length ent0).kd=kRule→askRev r sTop (rgL l).kn=overE r sTop (rgL l).kn:=fun r q1 q2=>by
  unfold askRev
  rw [q1,if_neg (by omega),Int.toNat_natCast,q2,if_pos rfl]
  unfold firstI
  rw [if_pos rfl]
  unfold firstI
  by_cases q3:overE r sTop (rgL l).kn=0
  ·rw [if_pos q3,q3];rfl
  ·rw [if_neg q3]
 obtain⟨e1,e2⟩:=er_snoc (e:=evV L.length (rgL l).kn) a1 (step_zero (chk_V (by omega) h.dy) (by
  rw [acc_V _ _ (by rw [hkn];exact Int.le_refl _) h.dy.2,hV _ t1 t2,hbase]))
 have e3:rgL (L++[evV L.length (rgL l).kn])=rmG (rgL L) sTop (rgL l).kn:=by
  rw [e2]
  have:=aft_V (rgL L) L.length
  rw [hkn] at this
  exact this
 have hl2:(L++[evV L.length (rgL l).kn]).length=L.length+1:=by simp
 have htop:sTop∈own:=by rw [←h0];exact List.getElem_mem _
 refine⟨rul_cnt h.rme ho0 ho a4,rul_rst h.rme ho0 ho a4,by rw [t1];omega,e1,?_,rul_min h.rme ho a4,?_,?_,fun hy b hb=> ?_⟩
 ·rw [e3];exact rul_off h.rme ho0 ho a4
 ·rw [e3]
  have ho2:OkR (rmG (rgL L) sTop (rgL l).kn):=by rw [←e3];exact rgL_ok (by rw [hl2];omega) e1
  have:=minE_le ho2 sS (rgL l).kn 5
  omega
 ·rw [erA_acc e1 (chk_V (by omega) h.dy) (by rw [hl2];omega),e3,hl2,acc_V _ _ (by show (rgL L).kn≤_;rw [hkn];exact Int.le_refl _) h.dy.2]
  exact(hV (rmG (rgL L) sTop (rgL l).kn) t1 t2).trans (rul_over h.rme ho a4 htop)
 ·rw [erA_acc e1 (chk_F (by omega) h.dy (by decide) (hon b hb) (by decide)) (by rw [hl2];omega),e3,hl2,acc_F _ _ _ _ _ (by show (rgL L).kn≤_;rw [hkn];exact Int.le_refl _) h.dy.2]
  exact ask_base (r:=rmG (rgL L) sTop (rgL l).kn) (rul_fresh a4 hy hyn) (by show (rgL L).es.length<256;omega) (rul_over h.rme ho a4 hb) (by decide)
end Go.Proofs.YtcbddkeiohdocaaGreatDoor.Co
/-
 Equal lists are equal, says the reference.
-/
namespace Go.Proofs.YtcbddkeiohdocaaGreatDoor.Co
open Go Go.Evl
section
variable {E : Oracle} (g : Good E)
include g
set_option maxRecDepth 100000
theorem r_SameW (l:List (List UInt8)) (hl:l.length≤1000000):Fc E n_ref01_SameWords [Ws l,Ws l] (B true):=by
 refine g.fn rfl rfl ?_
 repeat' ((conv=>whnf);first
 | refine Yz ?_)
 refine LoopW.to (LoopW.up g (fun k=>[(0,Ws l),(1,Ws l),(5,I k)]) (fun _=>[]) l.length (fun k hk ih=> ?_) 0 (Nat.zero_le _)) rfl rfl
 by_cases hlt:k<l.length
 ·have ih:=ih hlt
  repeat' ((conv=>whnf);first
  | refine Yz ?_
   | (refine Pick.ws k rfl hlt ?_)
   | (refine Cmp.tt rfl ?_)
   | (refine LoopW.to ih rfl rfl))
 ·repeat' ((conv=>whnf);first
 | refine Yz ?_
   | (refine Ret.mk rfl))
end
end Go.Proofs.YtcbddkeiohdocaaGreatDoor.Co
/-
 The laws' parameters, as data.
-/
namespace Go.Proofs.YtcbddkeiohdocaaGreatDoor.Co
open Go Go.Evl
set_option maxRecDepth 100000
def i64 (n:Int):Prop:= -9223372036854775808≤n∧n≤9223372036854775807
theorem wf_i64 {n:Int} (h:(Lit.int .i64 n).wf=true):i64 n:=by
 simp only [Lit.wf,Bool.and_eq_true,decide_eq_true_eq] at h
 exact h
section
variable {P : Program} {n : Nat} {t : Nat} {ds : List D} {x : D}
theorem fit_i {k:IntKind} (ht:P.underlying t=some (.int k)) (h:fit P (n+1) t ds):∃i,ds=[.int k i]∧(Lit.int k i).wf=true:=by
 simp only [fit,ht] at h;exact h
theorem fit_s (ht:P.underlying t=some .string) (h:fit P (n+1) t ds):∃s,ds=[.str s]∧s.length≤maxLen:=by
 simp only [fit,ht] at h;exact h
theorem fit_l {e:Nat} (ht:P.underlying t=some (.slice e)) (h:fit P (n+1) t ds):∃m cs,ds=[.list m cs]∧m≤maxLen∧fitAll (fit P n) (List.replicate m e) cs:=by
 simp only [fit,ht] at h;exact h
theorem fit_st {fs:Array Field} (ht:P.underlying t=some (.struct fs)) (h:fit P (n+1) t ds):fitAll (fit P n) (fs.toList.map (·.type)) ds:=by
 simp only [fit,ht] at h;exact h
theorem arg_l {e:Nat} (ht:P.underlying t=some (.slice e)) (h:fitArg P t x):∃m cs,x= .list m cs∧m≤maxLen∧fitAll (fit P 7) (List.replicate m e) cs:=by
 simp only [fitArg,ht] at h
 obtain⟨m,cs,e,h1,h2⟩:=fit_l (n:=7) ht h
 exact⟨m,cs,by simpa using e,h1,h2⟩
end
theorem fit_int {k:Nat} {ds:List D} (h:fit Tryz.prog (k+1) 3 ds):∃n,ds=[DI n]∧i64 n:=by
 obtain⟨n,rfl,hw⟩:=fit_i Tryz.underlying3 h
 exact⟨n,rfl,wf_i64 hw⟩
theorem fit_ints {k:Nat}:∀(m:Nat) {ds:List D},fitAll (fit Tryz.prog (k+1)) (List.replicate m 3) ds→∃l:List Int,ds=l.map DI∧l.length=m∧∀n∈l,i64 n
 | 0,ds,h=>⟨[],h,rfl,by simp⟩
 | m+1,ds,h=>by
  obtain⟨a,b,rfl,h1,h2⟩:=h
  obtain⟨n,rfl,hn⟩:=fit_int h1
  obtain⟨l,rfl,h3,h4⟩:=fit_ints m h2
  exact⟨n::l,rfl,by simp [h3],by simpa using ⟨hn,h4⟩⟩
theorem args2 {P:Program} {t u:Nat} {xs:List D} (h:fitArgs P [t,u] xs):∃x y,xs=[x,y]∧fitArg P t x∧fitArg P u y:=by
 obtain⟨x,_,rfl,h1,y,_,rfl,h2,rfl⟩:=h
 exact⟨x,y,rfl,h1,h2⟩
end Go.Proofs.YtcbddkeiohdocaaGreatDoor.Co
/-
 Events as a law's parameters.
-/
namespace Go.Proofs.YtcbddkeiohdocaaGreatDoor.Co
open Go Go.Evl
set_option maxRecDepth 100000
structure BigE (e:Evt):Prop where
 ns:e.ns.length≤9223372036854775807
 vs:e.vs.length≤9223372036854775807
 nu:i64 e.nu
 ki:e.ki.length≤9223372036854775807
 tx:e.tx.length≤9223372036854775807
 na:∀x∈e.ns,x.length≤9223372036854775807
theorem fit_strs {k:Nat}:∀(m:Nat) {ds:List D},fitAll (fit Tryz.prog (k+1)) (List.replicate m 9) ds→∃l:List (List UInt8),ds=l.map D.str∧l.length=m∧∀x∈l,x.length≤9223372036854775807
 | 0,ds,h=>⟨[],h,rfl,fun _ h=>by cases h⟩
 | m+1,ds,h=>by
  obtain⟨a,b,rfl,h1,h2⟩:=h
  obtain⟨s,rfl,hs⟩:=fit_s Tryz.underlying9 h1
  obtain⟨l,rfl,h3,h4⟩:=fit_strs m h2
  refine⟨s::l,rfl,by simp [h3],fun x hx=> ?_⟩
  rcases List.mem_cons.1 hx with rfl|hx
  ·exact Nat.le_trans hs (by decide)
  ·exact h4 x hx
theorem fit_Event_all {k:Nat} {ds:List D} (h:fitAll (fit Tryz.prog (k+2)) [3,9,30,49,9] ds):∃e:Evt,ds=e.cells∧BigE e:=by
 obtain⟨_,_,rfl,h1,_,_,rfl,h2,_,_,rfl,h3,_,_,rfl,h4,_,_,rfl,h5,rfl⟩:=h
 obtain⟨n,rfl,hn⟩:=fit_int h1
 obtain⟨s1,rfl,a1⟩:=fit_s Tryz.underlying9 h2
 obtain⟨m,cs,rfl,a2,h6⟩:=fit_l Tryz.underlying30 h3
 obtain⟨q,es,rfl,a3,h7⟩:=fit_l Tryz.underlying49 h4
 obtain⟨s2,rfl,a4⟩:=fit_s Tryz.underlying9 h5
 obtain⟨l,rfl,rfl,b1⟩:=fit_strs m h6
 obtain⟨v,rfl,rfl,b2⟩:=fit_ints q h7
 exact⟨⟨n,s1,l,v,s2⟩,rfl,Nat.le_trans a2 (by decide),Nat.le_trans a3 (by decide),hn,Nat.le_trans a1 (by decide),Nat.le_trans a4 (by decide),b1⟩
theorem fit_Event {k:Nat} {ds:List D} (h:fit Tryz.prog (k+3) 75 ds):∃e:Evt,ds=e.cells∧BigE e:=fit_Event_all (fit_st Tryz.underlying75 h)
theorem fit_Events {k:Nat}:∀(m:Nat) {ds:List D},fitAll (fit Tryz.prog (k+3)) (List.replicate m 75) ds→∃l:List Evt,ds=l.flatMap Evt.cells∧l.length=m∧∀e∈l,BigE e
 | 0,ds,h=>⟨[],h,rfl,fun _ h=>by cases h⟩
 | m+1,ds,h=>by
  obtain⟨a,b,rfl,h1,h2⟩:=h
  obtain⟨x,rfl,b1⟩:=fit_Event h1
  obtain⟨l,rfl,h3,b2⟩:=fit_Events m h2
  refine⟨x::l,rfl,by simp [h3],fun e he=> ?_⟩
  rcases List.mem_cons.1 he with rfl|he
  ·exact b1
  ·exact b2 e he
theorem arg_Events {x:D} (h:fitArg Tryz.prog 22 x):∃l:List Evt,x= .list l.length (l.flatMap Evt.cells)∧l.length≤9223372036854775807∧∀e∈l,BigE e:=by
 obtain⟨m,cs,rfl,a,h'⟩:=arg_l Tryz.underlying22 h
 obtain⟨l,rfl,rfl,b⟩:=fit_Events m h'
 exact⟨l,rfl,Nat.le_trans a (by decide),b⟩
end Go.Proofs.YtcbddkeiohdocaaGreatDoor.Co
/-
 What the office's laws share: first, when, short, questions as parameters, turns.
-/
namespace Go.Proofs.YtcbddkeiohdocaaGreatDoor.Co
open Go Go.Evl
set_option maxRecDepth 100000
section
variable {E : Oracle} (g : Good E)
include g
theorem v_when (b:Bool) (e:Int):Fc E n_law10_when [B b,I e] (I (if b then e else 0)):=by
 refine g.fn rfl rfl ?_
 cases b
 all_goals repeat' ((conv=>whnf);first
 | refine Yz ?_
  | (refine Ret.mk rfl))
end
end Go.Proofs.YtcbddkeiohdocaaGreatDoor.Co
/-
 Errors of questions; short lists; how long a history is.
-/
namespace Go.Proofs.YtcbddkeiohdocaaGreatDoor.Co
open Go Go.Evl
theorem short_bd {l:List Evt} {n:Int} (h:(decide ((l.length:Int)≤n)&&l.all shortB)=true):(l.length:Int)≤n∧∀e∈l,e.ns.length≤6∧e.vs.length≤8:=by
 rw [Bool.and_eq_true,decide_eq_true_eq,List.all_eq_true] at h
 refine⟨h.1,fun e he=> ?_⟩
 have:=h.2 e he
 simp only [shortB,Bool.and_eq_true,decide_eq_true_eq] at this
 exact⟨this.1.1.1.2,this.1.1.2⟩
end Go.Proofs.YtcbddkeiohdocaaGreatDoor.Co
/-
 The fixed example of chapter 10's laws comes out.
-/
namespace Go.Proofs.YtcbddkeiohdocaaGreatDoor.Co
open Go Go.Evl
section
variable {E : Oracle} (g : Good E)
include g
set_option maxRecDepth 100000
set_option maxHeartbeats 4000000 in
theorem s_awake:Fc E n_law10_awake [] (B true):=by
 refine g.fn rfl rfl ?_
 repeat' ((conv=>whnf);first
 | refine Yz ?_
  | (apply CallI.of;first |exact ao1 g|exact ao2 g|exact ao3 g|exact ao4 g|exact ao5 g|exact ao6 g|exact ao7 g|exact ao8 g|exact ao9 g|exact ao10 g|exact ao11 g|exact ao12 g|exact ao13 g|exact ao14 g|exact ao15 g|exact ao16 g|exact ao17 g|exact ao18 g|exact ao19 g|exact ao20 g|exact ao21 g|exact ao22 g|exact ao23 g|exact ao24 g|exact ao25 g|exact ao27 g|exact ao28 g)
  | (refine is0 g ?_)
  | (first |refine is1 g ?_|refine is2 g ?_|refine is3 g ?_|refine is4 g ?_|refine is5 g ?_|refine is6 g ?_|refine is7 g ?_|refine is8 g ?_|refine is9 g ?_|refine is10 g ?_|refine is11 g ?_)
  | (refine Need.mk (by simp only [maxStr,List.length_cons,List.length_nil];omega) ?_)
  | (refine LoopW.step g.lim ?_)
  | (exact Ret.mk rfl))
end
end Go.Proofs.YtcbddkeiohdocaaGreatDoor.Co
/-
 OfficeRulings returns true, for every list of events and every chain.
-/
namespace Go.Proofs.YtcbddkeiohdocaaGreatDoor.Co
open Go Go.Evl
set_option maxRecDepth 100000
abbrev LU (l:List Int):V:= .d (.list l.length (l.map fun n=>D.int .u8 n))
theorem fit_u8s {k:Nat}:∀(m:Nat) {ds:List D},fitAll (fit Tryz.prog (k+1)) (List.replicate m 5) ds→∃l:List Int,ds=l.map (fun n=>D.int .u8 n)∧l.length=m∧∀n∈l,0≤n∧n≤255
 | 0,ds,h=>⟨[],h,rfl,by simp⟩
 | m+1,ds,h=>by
  obtain⟨a,b,rfl,h1,h2⟩:=h
  obtain⟨n,rfl,hw⟩:=fit_i Tryz.underlying5 h1
  simp only [Lit.wf,Bool.and_eq_true,decide_eq_true_eq] at hw
  obtain⟨l,rfl,h3,h4⟩:=fit_u8s m h2
  exact⟨n::l,rfl,by simp [h3],by simpa using ⟨hw,h4⟩⟩
theorem arg_u8s {x:D} (h:fitArg Tryz.prog 104 x):∃l:List Int,x= .list l.length (l.map fun n=>D.int .u8 n)∧l.length≤9223372036854775807∧∀n∈l,0≤n∧n≤255:=by
 obtain⟨m,cs,rfl,a,h'⟩:=arg_l Tryz.underlying104 h
 obtain⟨l,rfl,rfl,b⟩:=fit_u8s m h'
 exact⟨l,rfl,Nat.le_trans a (by decide),b⟩
theorem LE_snoc (l:List Evt) (e:Evt):LE (l++[e])= .d (.list (0+l.length+1) ([]++l.flatMap Evt.cells++(e.cells++[]))):=by
 unfold LE
 rw [List.length_append,List.flatMap_append,List.flatMap_cons,List.flatMap_nil,Nat.zero_add]
 rfl
theorem erC_at {l:List Evt} {k:Int} (h0:erL l=0) (hk:0≤k∧k≤99999):erC l k=0:=by
 unfold erC
 rw [h0,show rng k 0 99999=0 from if_neg (by omega)]
 rfl
theorem erM_at {l:List Evt} {s:List UInt8} {k d:Int} (h0:erL l=0) (hn:isNameB s=true) (hk:0≤k∧k≤99999) (hd:0≤d∧d≤99999):erM l s k d=0:=by
 unfold erM
 rw [h0,hn,show rng k 0 99999=0 from if_neg (by omega),show rng d 0 99999=0 from if_neg (by omega)]
 rfl
theorem erR_at {l:List Evt} {s:List UInt8} (h0:erL l=0) (hn:isNameB s=true):erR l s=0:=by
 unfold erR
 rw [h0,hn]
 rfl
section
variable {E : Oracle} (g : Good E)
include g
theorem s_repx (k:Nat) (h:k<4):Fc E n_strings_Repeat [S [120],I ((k:Int)+1)] (S (xN k)):=by
 refine Fc.extern g.lim (x:=repeatX) rfl (v:=S (xN k)) (m':=[]) ?_ rfl
 have:k=0∨k=1∨k=2∨k=3:=by omega
 rcases this with rfl|rfl|rfl|rfl<;>rfl
set_option maxHeartbeats 64000000 in
theorem w_OfficeRulings (l:List Evt) (c:List Int) (hl0:l.length≤9223372036854775807) (hb:∀e∈l,BigE e) (hcl:c.length≤9223372036854775807) (hc:∀n∈c,0≤n∧n≤255):Fc E n_law10_OfficeRulings [LE l,LU c] (B true):=by
 have aw:=s_awake g
 have hsh:=r_ShortEvents g l 16 (by decide) hl0 (fun e he=>⟨(hb e he).ns,(hb e he).vs,(hb e he).ki,(hb e he).tx,(hb e he).na⟩)
 cases h1:(decide ((l.length:Int)≤16)&&l.all shortB) with
 | false=>
  rw [h1] at hsh
  refine g.fn rfl rfl ?_
  repeat' ((conv=>whnf);first
  | refine Yz ?_
   | (apply CallI.of;assumption)
   | (refine Ret.mk rfl)
   | fail)
 | true=>
 rw [h1] at hsh
 obtain⟨hl,hs⟩:=short_bd h1
 have hl:l.length≤16:=by omega
 have hs':∀e∈l,e.ns.length≤1000000∧e.vs.length≤1000000:=fun e he=>by have:=hs e he;omega
 by_cases h2:4<c.length
 ·refine g.fn rfl rfl ?_
  repeat' ((conv=>whnf);first
  | refine Yz ?_
   | (apply CallI.of;assumption)
   | (refine Ret.mk rfl)
   | fail)
 have p3:=r_Replay g l (by omega) hs'
 by_cases h6:erL l≠0
 ·refine g.fn rfl rfl ?_
  repeat' ((conv=>whnf);first
  | refine Yz ?_
   | (apply CallI.of;assumption)
   | (refine Cmp.tt h6 ?_)
   | (refine Ret.mk rfl)
   | fail)
 have h6:=Decidable.byContradiction h6
 rw [h6] at p3
 have hrl:=rg_len h6
 have q0:=r_EntryAt g (rgL l) [116,111,112] (by omega)
 have q1:=r_EntryAt g (rgL l) [120] (by omega)
 have q2:=r_EntryAt g (rgL l) [120,120] (by omega)
 have q3:=r_EntryAt g (rgL l) [120,120,120] (by omega)
 have q4:=r_EntryAt g (rgL l) [120,120,120,120] (by omega)
 have qy:=r_EntryAt g (rgL l) [121] (by omega)
 by_cases t0:0≤entI (rgL l).es [116,111,112]
 ·refine g.fn rfl rfl ?_
  repeat' ((conv=>whnf);first
  | refine Yz ?_
   | (apply CallI.of;assumption)
   | (refine Ret.mk rfl)
   | fail)
 by_cases t1:0≤entI (rgL l).es [120]
 ·refine g.fn rfl rfl ?_
  repeat' ((conv=>whnf);first
  | refine Yz ?_
   | (apply CallI.of;assumption)
   | (refine Ret.mk rfl)
   | fail)
 by_cases t2:0≤entI (rgL l).es [120,120]
 ·refine g.fn rfl rfl ?_
  repeat' ((conv=>whnf);first
  | refine Yz ?_
   | (apply CallI.of;assumption)
   | (refine Ret.mk rfl)
   | fail)
 by_cases t3:0≤entI (rgL l).es [120,120,120]
 ·refine g.fn rfl rfl ?_
  repeat' ((conv=>whnf);first
  | refine Yz ?_
   | (apply CallI.of;assumption)
   | (refine Ret.mk rfl)
   | fail)
 by_cases t4:0≤entI (rgL l).es [120,120,120,120]
 ·refine g.fn rfl rfl ?_
  repeat' ((conv=>whnf);first
  | refine Yz ?_
   | (apply CallI.of;assumption)
   | (refine Ret.mk rfl)
   | fail)
 have hneg:∀nm,¬ 0≤entI (rgL l).es nm→entI (rgL l).es nm= -1:=fun nm h=>by
  rcases entI_cases (rgL l).es nm with⟨e,_⟩|⟨j,_,e,_⟩
  ·exact e
  ·omega
 have hB:Base l:=⟨h6,hl,hs',replG_kn l rg0 0 h6 ⟨Int.le_refl _,by decide⟩,hneg _ t0,fun k hk=>by
  have:k=0∨k=1∨k=2∨k=3:=by omega
  rcases this with rfl|rfl|rfl|rfl
  ·exact hneg _ t1
  ·exact hneg _ t2
  ·exact hneg _ t3
  ·exact hneg _ t4⟩
 have hdy:=hB.dy
 have hK:=evsK_ok hB c
 have hA:=rul_all hB c (k:=c.length) (by omega)
 have pC0:=s_Counting g l (by omega) hs' (rgL l).kn
 rw [erC_at h6 hdy,if_pos rfl] at pC0
 have hrx:=s_repx g
 have hml:(l.flatMap Evt.cells).length=l.length*5:=flatR_length Evt.cells 5 evw l
 refine g.fn rfl rfl ?_
 repeat' ((conv=>whnf);first
 | refine Yz ?_
  | (apply CallI.of;assumption)
  | (refine In.enter (f:=n_law10_OfficeRulings_1) g.lim rfl rfl ?_)
  | (refine Need.mk ⟨rfl,rfl,rfl,rfl,rfl,by first |exact hml|rfl,by dsimp only;omega,by first |omega|(dsimp only;omega)⟩ ?_)
  | (refine Need.mk ⟨.inl rfl,rfl,by omega⟩ ?_)
  | (refine Need.mk ⟨rfl,by decide⟩ ?_)
  | (refine Chk.mk rfl ?_)
  | fail)
 refine LoopW.to (LoopW.up g (fun k=>[(1,LU c),(2,.ptr ⟨0,2,0⟩ 0 0),(5,.ptr ⟨0,5,0⟩ 0 0),(8,I (rgL l).kn),(9,.fn n_law10_OfficeRulings_1 [] [.ptr ⟨0,2,0⟩ 0 0]),(10,Ws (cntL (rgL l) (rgL l).kn)),(11,I 0),(12,.ref ⟨0,85,0⟩ 0 (k+1) (k+1)),(86,LU c),(87,I c.length),(88,I k)])
  (fun k=>[(⟨0,2,0⟩,.cells ty_Lapi_Event [LE (evsK l c k)]),bxR 5 (rgL l),(⟨0,85,0⟩,.row false ty_string 1 (k+1) ((ownK k).map D.str))]) c.length (fun k hk ih=> ?_) 0 (Nat.zero_le _)) rfl ?_
 case refine_2=>
  rw [if_pos ⟨rfl,rfl⟩,evsK,LE_snoc]
  rfl
 by_cases hlt:k<c.length
 ·have ih:=ih hlt
  obtain⟨_,k2,_,_⟩:=hK k (by omega)
  have hol:=ownK_len k
  have hmk:((evsK l c k).flatMap Evt.cells).length=(evsK l c k).length*5:=flatR_length Evt.cells 5 evw _
  have hrk:=hrx k (by omega)
  have hck:=hc _ (List.getElem_mem hlt)
  have hpc:∀ {K:D→Prop},K (.int .u8 c[k])→Pick (c.map fun n=>D.int .u8 n) (((k:Nat):Int).toNat*1) K:=fun h=>⟨⟨_,by rw [Int.toNat_natCast,Nat.mul_one,List.getElem?_map,List.getElem?_eq_getElem hlt];rfl,h⟩⟩
  obtain⟨j,hmod,hj,hpo⟩:∃j:Nat,c[k]%((k+1:Nat):Int)=(j:Int)∧j<k+1∧∀ {K:D→Prop},K (.str (baseK c k))→Pick ((ownK k).map D.str) ((0+((j:Nat):Int).toNat)*1) K:=by
   have hgd:c.getD k 0=c[k]:=by simp [List.getD,hlt]
   refine⟨c[k].toNat%(k+1),?_,Nat.mod_lt _ (by omega),fun h=>⟨⟨_,?_,h⟩⟩⟩
   ·rw [Int.natCast_emod,Int.toNat_of_nonneg hck.1]
   ·have hjl:=base_lt c k
    have hbe:=baseK_eq c k
    simp only [hgd] at hjl hbe
    rw [Int.toNat_natCast,Nat.mul_one,Nat.zero_add,List.getElem?_map,List.getElem?_eq_getElem hjl,hbe]
    rfl
  have hsn:=LE_snoc (evsK l c k) (evF (evsK l c k).length (rgL l).kn (xN k) (baseK c k) 601)
  simp only [evsK,ownK,hsn,List.map_append,List.map_cons,List.map_nil] at ih
  clear hsn hK hA
  generalize evsK l c k=L at *
  generalize ownK k=own at *
  generalize baseK c k=bk at *
  generalize xN k=xk at *
  have hle:=hB.le
  clear hB
  have hmo:(own.map D.str).length=(k+1)*1:=by rw [List.length_map,hol];omega
  generalize c[k]=ck at *
  repeat' ((conv=>whnf);first
  | refine Yz ?_
   | (refine hpc ?_)
   | (rw [hmod])
   | (refine hpo ?_)
   | (apply CallI.of;assumption)
   | (refine In.enter (f:=n_law10_OfficeRulings_1) g.lim rfl rfl ?_)
   | (refine Need.mk ⟨rfl,rfl,rfl,rfl,rfl,by first |exact hmk|rfl,by dsimp only;omega,by first |omega|(dsimp only;omega)⟩ ?_)
   | (refine Need.mk ⟨.inl rfl,rfl,by omega⟩ ?_)
   | (refine Need.mk ⟨rfl,by decide⟩ ?_)
   | (refine Chk.mk rfl ?_)
   | (refine LoopW.to ih rfl ?_)
   | fail)
  rw [if_pos ⟨rfl,rfl⟩]
  rfl
 obtain rfl:k=c.length:=by omega
 clear ih hrx hml hsh p3 hs hb hl0 q0 q1 q2 q3 q4
 obtain⟨k1,k2,k3,k4⟩:=hK c.length (by omega)
 obtain⟨f1,f2,f3,f4,f5,f6,f7,f8,f9⟩:=hA
 have hol:=ownK_len c.length
 have hon:∀s∈ownK c.length,isNameB s=true:=ownK_name (by omega)
 have hle:=hB.le
 clear hB hK
 generalize evsK l c c.length=L at *
 generalize ownK c.length=own at *
 have hL2:=LE_snoc L (evV L.length (rgL l).kn)
 have hbd2:∀e∈L++[evV L.length (rgL l).kn],e.ns.length≤1000000∧e.vs.length≤1000000:=fun e he=>by
  rcases List.mem_append.1 he with he|he
  ·exact k3 e he
  ·rw [List.mem_singleton] at he;subst he;exact⟨by simp [evV],by simp [evV]⟩
 have hln2:(L++[evV L.length (rgL l).kn]).length≤1000:=by rw [List.length_append,List.length_singleton];omega
 have pC1:=s_Counting g L (by omega) k3 (rgL l).kn
 rw [erC_at k1 hdy,if_pos rfl,f1] at pC1
 have pR:=s_Resting g L (by omega) k3 [116,111,112]
 rw [erR_at k1 (by decide),if_pos rfl,if_pos rfl] at pR
 have f3':¬entI (rgL L).es [116,111,112]<0:=f3
 have f2':rstL (rgL L) [116,111,112]=own.tail:=f2
 rw [if_neg f3',if_neg f3',f2'] at pR
 have pC2:=s_Counting g _ hln2 hbd2 (rgL l).kn
 rw [erC_at f4 hdy,if_pos rfl,f5,hL2] at pC2
 have pM1:=s_Minute g _ hln2 hbd2 [115] (rgL l).kn 5
 rw [erM_at f4 (by decide) hdy (by decide),if_pos rfl,hL2] at pM1
 have f7':¬minE (rgL (L++[evV L.length (rgL l).kn])) [115] (rgL l).kn 5<0:=f7
 generalize minE (rgL (L++[evV L.length (rgL l).kn])) [115] (rgL l).kn 5=m1 at *
 have pM2:=s_Minute g L (by omega) k3 [115] (rgL l).kn 5
 rw [erM_at k1 (by decide) hdy (by decide),if_pos rfl] at pM2
 have f6':minE (rgL L) [115] (rgL l).kn 5=if own.length=1 then 600 else 601:=f6
 rw [f6'] at pM2
 have f8':erA (L++[evV L.length (rgL l).kn]) (evV (0+L.length+1) (rgL l).kn)=20:=by rw [Nat.zero_add];exact f8
 have pA1:=s_Accepts g _ hln2 hbd2 (evV (0+L.length+1) (rgL l).kn) (by simp [evV]) (by simp [evV])
 rw [f8',hL2] at pA1
 have hlast:c.length<own.length:=by omega
 have pA2:=fun(hy:entI (rgL l).es [121]= -1)=>s_Accepts g _ hln2 hbd2 (evF (0+L.length+1) (rgL l).kn [121] own[c.length] 5) (by simp [evF]) (by simp [evF])|>fun h=>by
  rw [show erA (L++[evV L.length (rgL l).kn]) (evF (0+L.length+1) (rgL l).kn [121] own[c.length] 5)=20 by rw [Nat.zero_add];exact f9 hy _ (List.getElem_mem hlast),hL2] at h
  exact h
 have hpl:∀ {K:D→Prop},K (.str own[c.length])→Pick (own.map D.str) ((0+(((c.length+1:Nat):Int)-1).toNat)*1) K:=fun h=>⟨⟨_,by rw [show (((c.length+1:Nat):Int)-1).toNat=c.length by omega,Nat.zero_add,Nat.mul_one,List.getElem?_map,List.getElem?_eq_getElem hlast];rfl,h⟩⟩
 have hwt:∀tl:List D,win ([]++L.flatMap Evt.cells++tl) (0*5) ((L.length-0)*5)=L.flatMap Evt.cells:=fun tl=>by
  unfold win
  rw [Nat.zero_mul,List.drop_zero,Nat.sub_zero,←flatR_length Evt.cells 5 evw L,List.nil_append,List.take_left]
 have pS0:=r_SameW g (cntL (rgL l) (rgL l).kn) (by
  unfold cntL
  rw [List.length_map]
  exact Nat.le_trans (List.length_filter_le _ _) (by omega))
 have hbl:(cntL (rgL l) (rgL l).kn).length≤1000:=by
  unfold cntL
  rw [List.length_map]
  exact Nat.le_trans (List.length_filter_le _ _) (by omega)
 generalize cntL (rgL l) (rgL l).kn=bf at *
 have pS1:Fc E n_ref01_SameWords [Ws (bf++own),.d (.list (0+bf.length+(c.length+1)) ([]++bf.map D.str++own.map D.str))] (B true):=by
  have h:=r_SameW g (bf++own) (by rw [List.length_append];omega)
  have e:Ws (bf++own)= .d (.list (0+bf.length+(c.length+1)) ([]++bf.map D.str++own.map D.str)):=by
   rw [Ws,List.length_append,hol,Nat.zero_add,List.nil_append,List.map_append]
  rw [e] at h ⊢
  exact h
 have pS2:Fc E n_ref01_SameWords [Ws own.tail,.d (.list (c.length+1-1) (own.tail.map D.str))] (B true):=by
  have h:=r_SameW g own.tail (by rw [List.length_tail];omega)
  have e:Ws own.tail= .d (.list (c.length+1-1) (own.tail.map D.str)):=by
   rw [Ws,List.length_tail,hol]
  rw [e] at h ⊢
  exact h
 have htl:win (own.map D.str) ((0+1)*1) ((c.length+1-1)*1)=own.tail.map D.str:=by
  unfold win
  rw [List.map_tail,Nat.zero_add,Nat.one_mul,←List.drop_one,Nat.mul_one,List.take_of_length_le (by rw [List.length_drop,List.length_map,hol];omega)]
 have hmb:(bf.map D.str).length=bf.length*1:=by rw [List.length_map,Nat.mul_one]
 have hmo:(own.map D.str).length=(c.length+1)*1:=by rw [List.length_map,hol,Nat.mul_one]
 have hml:(L.flatMap Evt.cells).length=L.length*5:=flatR_length Evt.cells 5 evw L
 have hwn1:=v_when g true 1
 have hwn0:=v_when g false 1
 by_cases ty:0≤entI (rgL l).es [121]
 ·clear pA2
  generalize entI (rgL l).es [121]=iy at *
  by_cases hc0:0<c.length
  ·rw [if_neg (by omega)] at pM2
   repeat' ((conv=>whnf);first
   | refine Yz ?_
    | (rw [if_pos ⟨rfl,rfl⟩])
    | (rw [htl])
    | (apply CallI.of;assumption)
    | (refine Bounds.at 1 (c.length+1) rfl (by omega) (by omega) ?_)
    | (refine Bounds.at 0 L.length (by omega) (by omega) ⟨Nat.zero_le _,by omega⟩ ?_;rw [hwt])
    | (refine hpl ?_)
    | (refine In.enter (f:=n_law10_OfficeRulings_1) g.lim rfl rfl ?_)
    | (refine Need.mk ⟨rfl,rfl,rfl,rfl,rfl,by first |exact hml|exact hmb|exact hmo|rfl,by dsimp only;omega,by first |omega|(dsimp only;omega)⟩ ?_)
    | (refine Need.mk ⟨.inl rfl,rfl,by omega⟩ ?_)
    | (refine Need.mk ⟨rfl,by decide⟩ ?_)
    | (refine Chk.mk rfl ?_)
    | (refine Cmp.ff (fun h=>h rfl) ?_)
    | (refine Ret.mk rfl)
    | fail)
  ·rw [if_pos (by omega)] at pM2
   repeat' ((conv=>whnf);first
   | refine Yz ?_
    | (rw [if_pos ⟨rfl,rfl⟩])
    | (rw [htl])
    | (apply CallI.of;assumption)
    | (refine Bounds.at 1 (c.length+1) rfl (by omega) (by omega) ?_)
    | (refine Bounds.at 0 L.length (by omega) (by omega) ⟨Nat.zero_le _,by omega⟩ ?_;rw [hwt])
    | (refine hpl ?_)
    | (refine In.enter (f:=n_law10_OfficeRulings_1) g.lim rfl rfl ?_)
    | (refine Need.mk ⟨rfl,rfl,rfl,rfl,rfl,by first |exact hml|exact hmb|exact hmo|rfl,by dsimp only;omega,by first |omega|(dsimp only;omega)⟩ ?_)
    | (refine Need.mk ⟨.inl rfl,rfl,by omega⟩ ?_)
    | (refine Need.mk ⟨rfl,by decide⟩ ?_)
    | (refine Chk.mk rfl ?_)
    | (refine Cmp.ff (fun h=>h rfl) ?_)
    | (refine Ret.mk rfl)
    | fail)
 ·have pA2:=pA2 (hneg _ ty)
  generalize own[c.length]=bl at *
  generalize entI (rgL l).es [121]=iy at *
  by_cases hc0:0<c.length
  ·rw [if_neg (by omega)] at pM2
   repeat' ((conv=>whnf);first
   | refine Yz ?_
    | (rw [if_pos ⟨rfl,rfl⟩])
    | (rw [htl])
    | (apply CallI.of;assumption)
    | (refine Bounds.at 1 (c.length+1) rfl (by omega) (by omega) ?_)
    | (refine Bounds.at 0 L.length (by omega) (by omega) ⟨Nat.zero_le _,by omega⟩ ?_;rw [hwt])
    | (refine hpl ?_)
    | (refine In.enter (f:=n_law10_OfficeRulings_1) g.lim rfl rfl ?_)
    | (refine Need.mk ⟨rfl,rfl,rfl,rfl,rfl,by first |exact hml|exact hmb|exact hmo|rfl,by dsimp only;omega,by first |omega|(dsimp only;omega)⟩ ?_)
    | (refine Need.mk ⟨.inl rfl,rfl,by omega⟩ ?_)
    | (refine Need.mk ⟨rfl,by decide⟩ ?_)
    | (refine Chk.mk rfl ?_)
    | (refine Cmp.ff (fun h=>h rfl) ?_)
    | (refine Ret.mk rfl)
    | fail)
  ·rw [if_pos (by omega)] at pM2
   repeat' ((conv=>whnf);first
   | refine Yz ?_
    | (rw [if_pos ⟨rfl,rfl⟩])
    | (rw [htl])
    | (apply CallI.of;assumption)
    | (refine Bounds.at 1 (c.length+1) rfl (by omega) (by omega) ?_)
    | (refine Bounds.at 0 L.length (by omega) (by omega) ⟨Nat.zero_le _,by omega⟩ ?_;rw [hwt])
    | (refine hpl ?_)
    | (refine In.enter (f:=n_law10_OfficeRulings_1) g.lim rfl rfl ?_)
    | (refine Need.mk ⟨rfl,rfl,rfl,rfl,rfl,by first |exact hml|exact hmb|exact hmo|rfl,by dsimp only;omega,by first |omega|(dsimp only;omega)⟩ ?_)
    | (refine Need.mk ⟨.inl rfl,rfl,by omega⟩ ?_)
    | (refine Need.mk ⟨rfl,by decide⟩ ?_)
    | (refine Chk.mk rfl ?_)
    | (refine Cmp.ff (fun h=>h rfl) ?_)
    | (refine Ret.mk rfl)
    | fail)
end
theorem s_OfficeRulings {E:Oracle} (g:Good E) {xs:List D} (h:fitArgs Tryz.prog [22,104] xs):Fc E n_law10_OfficeRulings (asV xs) (B true):=by
 obtain⟨x,y,rfl,h1,h2⟩:=args2 h
 obtain⟨l,rfl,hl,hb⟩:=arg_Events h1
 obtain⟨c,rfl,hcl,hc⟩:=arg_u8s h2
 exact w_OfficeRulings g l c hl hb hcl hc
end Go.Proofs.YtcbddkeiohdocaaGreatDoor.Co
