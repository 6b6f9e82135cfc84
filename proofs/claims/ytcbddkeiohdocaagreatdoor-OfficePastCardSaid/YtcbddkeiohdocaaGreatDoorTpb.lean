/-
  OfficeTwp returns true, for every argument: the law, and the last part of what it leans on.
-/
import Derived.Laws.RangeAny
import Derived.Lib.SplitLaws
import Derived.Test.YtcbddkeiohdocaaGreatDoorAwR
import Derived.Test.YtcbddkeiohdocaaGreatDoorEvX
import Derived.Test.YtcbddkeiohdocaaGreatDoorEvY
import Derived.Test.YtcbddkeiohdocaaGreatDoorRead
import Derived.Test.YtcbddkeiohdocaaGreatDoorSpBase
import Derived.Test.YtcbddkeiohdocaaGreatDoorTpa
/-
 The keys of a map of texts in order: slices.Sorted of maps.Keys, by the program.
-/
namespace Go.Proofs.YtcbddkeiohdocaaGreatDoor.Co
open Go Go.Evl
abbrev entsK (ks:List (List UInt8)):List (D×V):=ks.map fun k=>(D.str k,B true)
theorem ids_ents:∀ks:List (List UInt8),Evl.idsM (entsK ks)=[]
 | []=>rfl
 | k::ks=>by
  unfold entsK
  rw [List.map_cons,Evl.idsM]
  exact(List.nil_append _).trans (ids_ents ks)
abbrev mT (l:List Evt) (r:Rgs):Mem:=mS 0 17 l r++[(⟨1,6,0⟩,.row false ty_office_Slot 2 0 [])]
abbrev mZ (l:List Evt) (r:Rgs) (ks:List (List UInt8)):Mem:=mT l r++[(⟨1,14,0⟩,.map (entsK ks)),(⟨1,10,0⟩,.row false ty_office_Slot 2 0 []),(⟨1,29,0⟩,.cells ty_map_string_bool [.mp ⟨1,14,0⟩])]
abbrev lpK:Ob:= .loop [(2,.ptr ⟨4,2,0⟩ 0 0),(4,.ref ⟨4,4,0⟩ 0 0 0),(6,.fn n_maps_Keys_map_string_bool_string_bool_1 [] [.ptr ⟨1,29,0⟩ 0 0])] [7] b_slices_AppendSeq_Lstring_string_1 b_slices_AppendSeq_Lstring_string_2 4 false false none
abbrev mR0 (l:List Evt) (r:Rgs):Mem:=mT l r++[(⟨1,14,0⟩,.gone),(⟨1,10,0⟩,.row false ty_office_Slot 2 0 []),(⟨1,29,0⟩,.cells ty_map_string_bool [.mp ⟨1,14,0⟩]),(⟨2,2,0⟩,.row true ty_string 1 0 []),(⟨3,2,0⟩,.row true ty_string 1 0 []),(⟨4,2,0⟩,.cells ty_Lstring [.d .nil]),(⟨4,4,0⟩,.row true ty_string 1 0 []),(⟨4,14,0⟩,lpK),(⟨5,5,0⟩,.gone)]
abbrev mR1 (l:List Evt) (r:Rgs) (us:List (List UInt8)) (last:Ob):Mem:=mT l r++[(⟨1,14,0⟩,.gone),(⟨1,10,0⟩,.row false ty_office_Slot 2 0 []),(⟨1,29,0⟩,.cells ty_map_string_bool [.mp ⟨1,14,0⟩]),(⟨2,2,0⟩,.row true ty_string 1 0 []),(⟨3,2,0⟩,.row true ty_string 1 0 []),(⟨4,2,0⟩,.cells ty_Lstring [.ref ⟨4,11,0⟩ 0 us.length us.length]),(⟨4,4,0⟩,.row true ty_string 1 0 []),(⟨4,14,0⟩,lpK),(⟨5,5,0⟩,.gone),(⟨4,11,0⟩,last)]
abbrev rowK (us:List (List UInt8)):Ob:= .row true ty_string 1 us.length (us.map D.str)
abbrev eK:Env:=[(0,.yld ⟨4,14,0⟩),(5,.it ⟨5,5,0⟩)]
section
variable {E : Oracle} (g : Good E)
include g
set_option maxRecDepth 100000
abbrev bdK (E:Oracle):Env→Mem→Option (Ex×Env×Mem):=fun e m=>(evOps E ⟨5,6⟩ [xq 9 8 0,mq 3 9] e m).bind fun q=>evC E ⟨5,6⟩ b_maps_Keys_map_string_bool_string_bool_1_1 (without [8,9] q.1) q.2
omit g in
theorem bdK_of {e:Env} {m:Mem} {K:Ex→Env→Mem→Prop} (h:Evl.wpOps E ⟨5,6⟩ [xq 9 8 0,mq 3 9] e m fun e' m'=>wpC E ⟨5,6⟩ b_maps_Keys_map_string_bool_string_bool_1_1 (without [8,9] e') m' K):∃x e' m',bdK E e m=some (x,e',m')∧K x e' m':=by
 obtain⟨p,h1,h2⟩:=Evl.wpOps_ok _ _ _ _ h
 obtain⟨x,e',m',h3,h4⟩:=Evl.wpC_ok _ _ _ _ h2
 exact⟨x,e',m',by unfold bdK;rw [h1,Option.bind_some];exact h3,h4⟩
set_option maxHeartbeats 8000000 in
theorem round0 (l:List Evt) (r:Rgs) (k:List UInt8):∃x e' m',bdK E (put eK 8 (.tup [S k,B true])) (mR0 l r)=some (x,e',m')∧(x= .normal∧eqVb (get e' 5) (.it ⟨5,5,0⟩)=true∧only [0,5] e'=eK∧gc (keys (mR0 l r)) eK m'=mR1 l r [k] (rowK [k])):=by
 refine bdK_of ?_
 repeat' ((conv=>whnf);first
 | refine Yz ?_
  | (refine Rnd.enter g.lim ?_)
  | (refine Need.mk ⟨by decide,rfl,by decide,by decide⟩ ?_)
  | (exact⟨rfl,rfl,rfl,rfl⟩)
  | fail)
set_option maxHeartbeats 8000000 in
theorem round1 (l:List Evt) (r:Rgs) (us:List (List UInt8)) (hu:us.length≤1000000) (k:List UInt8):∃x e' m',bdK E (put eK 8 (.tup [S k,B true])) (mR1 l r us (rowK us))=some (x,e',m')∧(x= .normal∧eqVb (get e' 5) (.it ⟨5,5,0⟩)=true∧only [0,5] e'=eK∧gc (keys (mR0 l r)) eK m'=mR1 l r (us++[k]) (rowK (us++[k]))):=by
 refine bdK_of ?_
 repeat' ((conv=>whnf);first
 | refine Yz ?_
  | (refine Rnd.enter g.lim ?_)
  | (refine Need.mk ⟨rfl,rfl,rfl,rfl,rfl,rfl,by dsimp only;omega,by first |omega|(dsimp only;omega)⟩ ?_)
  | (refine⟨rfl,rfl,rfl,?_⟩)
  | fail)
 simp only [mR1,rowK,List.length_append,List.length_cons,List.length_nil,List.map_append,List.map_cons,List.map_nil]
 rfl
theorem rounds (l:List Evt) (r:Rgs):∀(ps us:List (List UInt8)),us.length+ps.length≤1000000→evRange (bdK E) 5 ⟨5,5,0⟩ 0 1 8 [0,5] (keys (mR0 l r)) (entsK ps) eK (mR1 l r us (rowK us))=some (.normal,eK,mR1 l r (us++ps) (rowK (us++ps)))
 | [],us,_=>by
  rw [List.append_nil]
  rfl
 | p::ps,us,h=>by
  rw [List.length_cons] at h
  obtain⟨x,e',m',h1,rfl,h2,h3,h4⟩:=round1 g l r us (by omega) p
  unfold entsK
  rw [List.map_cons,evRange,h1,Option.bind_some]
  unfold rangeNext
  dsimp only [Ex.on]
  rw [if_pos h2,h3,h4]
  have:=rounds l r ps (us++[p]) (by rw [List.length_append,List.length_singleton];omega)
  rw [List.append_assoc] at this
  exact this
theorem rounds0 (l:List Evt) (r:Rgs) (p:List UInt8) (ps:List (List UInt8)) (hl:ps.length≤100000):evRange (bdK E) 5 ⟨5,5,0⟩ 0 1 8 [0,5] (keys (mR0 l r)) (entsK (p::ps)) eK (mR0 l r)=some (.normal,eK,mR1 l r (p::ps) (rowK (p::ps))):=by
 obtain⟨x,e',m',h1,rfl,h2,h3,h4⟩:=round0 g l r p
 unfold entsK
 rw [List.map_cons,evRange,h1,Option.bind_some]
 unfold rangeNext
 dsimp only [Ex.on]
 rw [if_pos h2,h3,h4]
 exact rounds g l r ps [p] (by simp;omega)
omit g in
theorem ents_perm {ks:List (List UInt8)} {p:List (D×V)} (h:p.Perm (entsK ks)):∃us:List (List UInt8),p=entsK us∧us.Perm ks:=by
 refine⟨p.map fun e=>match e.1 with
  | .str s=>s
  | _=>[],?_,?_⟩
 ·unfold entsK
  rw [List.map_map]
  symm
  have:∀x∈p,((fun k=>(D.str k,B true))∘fun e:D×V=>match e.1 with
   | .str s=>s
   | _=>[]) x=x:=fun x hx=>by
   have:=h.subset hx
   obtain⟨k,_,rfl⟩:=List.mem_map.1 this
   rfl
  calc List.map _ p=List.map id p:=List.map_congr_left this
   _=p:=List.map_id p
 ·have h1:=h.map fun e:D×V=>match e.1 with
   | .str s=>s
   | _=>[]
  refine h1.trans ?_
  unfold entsK
  rw [List.map_map]
  have:List.map ((fun e:D×V=>match e.1 with
   | .str s=>s
   | _=>[])∘fun k=>(D.str k,B true)) ks=ks:=by
   calc _=List.map id ks:=List.map_congr_left fun _ _=>rfl
    _=ks:=List.map_id ks
  rw [this]
abbrev mK1 (l:List Evt) (r:Rgs) (ks:List (List UInt8)):Mem:=mT l r++[(⟨1,14,0⟩,.map (entsK ks)),(⟨1,10,0⟩,.row false ty_office_Slot 2 0 []),(⟨1,29,0⟩,.cells ty_map_string_bool [.mp ⟨1,14,0⟩]),(⟨2,2,0⟩,.row true ty_string 1 0 []),(⟨3,2,0⟩,.row true ty_string 1 0 []),(⟨4,2,0⟩,.cells ty_Lstring [.d .nil]),(⟨4,4,0⟩,.row true ty_string 1 0 []),(⟨4,14,0⟩,lpK)]
abbrev mRn (l:List Evt) (r:Rgs) (mp:Ob) (n:Nat) (last:Ob):Mem:=mT l r++[(⟨1,14,0⟩,mp),(⟨1,10,0⟩,.row false ty_office_Slot 2 0 []),(⟨1,29,0⟩,.cells ty_map_string_bool [.mp ⟨1,14,0⟩]),(⟨2,2,0⟩,.row true ty_string 1 0 []),(⟨3,2,0⟩,.row true ty_string 1 0 []),(⟨4,2,0⟩,.cells ty_Lstring [.ref ⟨4,11,0⟩ 0 n n]),(⟨4,4,0⟩,.row true ty_string 1 0 []),(⟨4,14,0⟩,lpK),(⟨5,5,0⟩,.gone),(⟨4,11,0⟩,last)]
abbrev e1K:Env:=[(0,.yld ⟨4,14,0⟩),(1,.ptr ⟨1,29,0⟩ 0 0),(4,.mp ⟨1,14,0⟩)]
set_option maxHeartbeats 8000000 in
theorem keysR (l:List Evt) (r:Rgs) (k:List UInt8) (kr:List (List UInt8)) (hl:kr.length≤100000):
  rangeMC (bdK E) ⟨5,6⟩ 5 (.t 4) 0 1 8 [0,5] e1K (mK1 l r (k::kr))=some (.normal,eK,mRn l r (.map (entsK (k::kr))) (kr.length+1) (.bag ty_string 1 (kr.length+1) ((k::kr).map D.str))):=by
 have hj:joinM true (mR0 l r) (mRn l r .gone (kr.length+1) (.row true ty_string 1 (kr.length+1) ((k::kr).map D.str)))=mRn l r .gone (kr.length+1) (.bag ty_string 1 (kr.length+1) ((k::kr).map D.str)):=by
  simp [joinM,bagO,fixO,Evl.look]
 refine(rangeMC_ok (o:=⟨1,14,0⟩) (es:=entsK (k::kr)) rfl rfl (i:=⟨5,5,0⟩) (m2:=mR0 l r) (e2:=eK) (e3:=eK) rfl rfl rfl
  (fun p=>mRn l r .gone (kr.length+1) (.row true ty_string 1 (kr.length+1) (p.map fun e=>e.1))) (fun p hp=> ?_) (mj:=mRn l r .gone (kr.length+1) (.bag ty_string 1 (kr.length+1) ((k::kr).map D.str))) ?_ (fun p hp=> ?_) rfl).trans rfl
 ·obtain⟨us,rfl,hu⟩:=ents_perm hp
  have hul:us.length=kr.length+1:=hu.length_eq
  obtain⟨a,b,rfl⟩:∃a b,us=a::b:=List.exists_cons_of_ne_nil (by rintro rfl;simp at hul)
  rw [rounds0 g l r a b (by simp at hul;omega)]
  dsimp only [mR1,rowK]
  rw [hul]
  have:(entsK (a::b)).map (fun e=>e.1)=(a::b).map D.str:=by
   unfold entsK
   rw [List.map_map]
   rfl
  rw [this]
 ·have:(entsK (k::kr)).map (fun e=>e.1)=(k::kr).map D.str:=by
   unfold entsK
   rw [List.map_map]
   rfl
  rw [this]
  exact hj
 ·obtain⟨us,rfl,hu⟩:=ents_perm hp
  have:(entsK us).map (fun e=>e.1)=us.map D.str:=by
   unfold entsK
   rw [List.map_map]
   rfl
  rw [this]
  have hb:bagB 1 (kr.length+1) ((k::kr).map D.str) (us.map D.str)=true:=bagB_of (hu.symm.map _) (by rw [List.length_map];exact hu.length_eq)
  exact LeJ.ok (.cells<| .row<| .row<| .row<| .row<| .row<| .gone<| .row<| .cells<| .row<| .row<| .cells<| .row<| .loop rfl rfl<| .gone<| .bag hb .nil)
omit g in
set_option maxHeartbeats 8000000 in
theorem keysR0 (l:List Evt) (r:Rgs):rangeMC (bdK E) ⟨5,6⟩ 5 (.t 4) 0 1 8 [0,5] e1K (mK1 l r [])=some (.normal,eK,mK1 l r []++[(⟨5,5,0⟩,.gone)]):=by
 have hj:joinM true (mR0 l r) (mR0 l r)=mR0 l r:=by
  simp [joinM,bagO,fixO,Evl.look]
 refine(rangeMC_ok (o:=⟨1,14,0⟩) (es:=[]) rfl rfl (i:=⟨5,5,0⟩) (m2:=mR0 l r) (e2:=eK) (e3:=eK) rfl rfl rfl (fun _=>mR0 l r) (fun p hp=> ?_) (mj:=mR0 l r) hj (fun p hp=> ?_) rfl).trans rfl
 ·have:=hp.symm.nil_eq
  subst this
  rfl
 ·exact LeJ.ok (.cells<| .row<| .row<| .row<| .row<| .row<| .gone<| .row<| .cells<| .row<| .row<| .cells<| .row<| .loop rfl rfl<| .gone .nil)
abbrev mA3 (l:List Evt) (r:Rgs) (ks:List (List UInt8)) (last:Ob):Mem:=mZ l r ks++[(⟨2,2,0⟩,.row true ty_string 1 0 []),(⟨2,5,0⟩,last)]
omit g in
theorem strs_perm {ks:List (List UInt8)} {p:List D} (h:p.Perm (ks.map D.str)):∃us:List (List UInt8),p=us.map D.str∧us.Perm ks:=by
 refine⟨p.map fun e=>match e with
  | .str s=>s
  | _=>[],?_,?_⟩
 ·rw [List.map_map]
  symm
  have:∀x∈p,(D.str∘fun e:D=>match e with
   | .str s=>s
   | _=>[]) x=x:=fun x hx=>by
   have:=h.subset hx
   obtain⟨k,_,rfl⟩:=List.mem_map.1 this
   rfl
  calc List.map _ p=List.map id p:=List.map_congr_left this
   _=p:=List.map_id p
 ·have h1:=h.map fun e:D=>match e with
   | .str s=>s
   | _=>[]
  refine h1.trans ?_
  rw [List.map_map]
  have:List.map ((fun e:D=>match e with
   | .str s=>s
   | _=>[])∘D.str) ks=ks:=by
   calc _=List.map id ks:=List.map_congr_left fun _ _=>rfl
    _=ks:=List.map_id ks
  rw [this]
omit g in
theorem sortS_uniq {a b:List (List UInt8)} (h:a.Perm b):sortS a=sortS b:=by
 have hanti:∀x y:List UInt8,strLess y x=false→strLess x y=false→x=y:=by
  intro x
  induction x with
  | nil=>intro y _ h2;cases y with
   | nil=>rfl
   | cons=>simp [strLess] at h2
  | cons c x ih=>intro y h1 h2;cases y with
   | nil=>simp [strLess] at h1
   | cons d y=>
    simp only [strLess,Bool.or_eq_false_iff,decide_eq_false_iff_not,Bool.and_eq_false_iff,beq_eq_false_iff_ne,ne_eq,UInt8.not_lt] at h1 h2
    have e:c=d:=UInt8.le_antisymm h1.1 h2.1
    subst e
    rw [ih y (h1.2.resolve_left (fun h=>h rfl)) (h2.2.resolve_left (fun h=>h rfl))]
 exact List.Perm.eq_of_pairwise (le:=fun x y=>strLess y x=false) (fun x y _ _ h1 h2=>hanti x y h1 h2) (sortS_sorted a) (sortS_sorted b) ((sortS_perm a).trans (h.trans (sortS_perm b).symm))
theorem sortRun (hx:ext n_slices_Sort_Lstring_string=some sortXS) (l:List Evt) (r:Rgs) (ks:List (List UInt8)) (n slot:Nat) (hn:ks.length=n) (h0:n≠0) (hb:n≤100000):
  callBag (fun m=>callV E ⟨2,3⟩ slot true true (.fn n_slices_Sort_Lstring_string [] []) [.ref ⟨2,5,0⟩ 0 n n] m) (mA3 l r ks (.bag ty_string 1 n (ks.map D.str))) (.ref ⟨2,5,0⟩ 0 n n)=some (.tup [],mA3 l r ks (.row true ty_string 1 n ((sortS ks).map D.str))):=by
 have hj:joinM false (mA3 l r ks (.bag ty_string 1 n (ks.map D.str))) (mA3 l r ks (.row true ty_string 1 n ((sortS ks).map D.str)))=mA3 l r ks (.row true ty_string 1 n ((sortS ks).map D.str)):=by
  simp [joinM,fixO]
 refine(callBag_ok (n:=n) (xs:=ks.map D.str) rfl (by rw [List.length_map];exact hn) (.tup [],mA3 l r ks (.row true ty_string 1 n ((sortS ks).map D.str))) (fun p hp=> ?_) ?_).trans (by rw [hj])
 ·obtain⟨us,rfl,hu⟩:=strs_perm hp
  have hul:us.length=n:=hu.length_eq.trans hn
  have key:Evl.callW E ⟨2,3⟩ slot true true (.fn n_slices_Sort_Lstring_string [] []) [.ref ⟨2,5,0⟩ 0 n n] (mA3 l r ks (.row true ty_string 1 n (us.map D.str))) fun v m=>v= .tup []∧m=mA3 l r ks (.row true ty_string 1 n ((sortS ks).map D.str)):=by
   repeat' ((conv=>whnf);first
   | refine Yz ?_
    | (simp only [Evl.idsAll,Evl.idsO,ids_ents,List.nil_append])
    | (refine In.extern (v:= .tup []) (m':=mA3 l r ks (.row true ty_string 1 n ((sortS ks).map D.str))) g.lim hx ?_ ?_)
    | (exact⟨rfl,rfl⟩)
    | (exact⟨trivial,rfl⟩)
    | fail)
   rw [←sortS_uniq hu]
   show (if n=0∧n=0∧n=0 then some (V.tup [],mA3 l r ks (.row true ty_string 1 n (us.map D.str))) else if n=n∧n=n∧n≠0∧n<4611686018427387904 then(match Evl.strsOf (us.map D.str) with
    | some zs=>some (V.tup [],upd (mA3 l r ks (.row true ty_string 1 n (us.map D.str))) ⟨2,5,0⟩ (.row true ty_string 1 n ((sortS zs).map D.str)))
    | none=>none) else none)=_
   rw [if_neg (fun h=>h0 h.1),if_pos ⟨rfl,rfl,h0,by omega⟩,strsOf_map]
   rfl
  obtain⟨q,h1,h2,h3⟩:=Evl.callW_ok key
  have:(q:V×Mem)=(.tup [],mA3 l r ks (.row true ty_string 1 n ((sortS ks).map D.str))):=Prod.ext h2 h3
  rw [←this]
  exact h1
 ·rw [hj]
  exact LeJ.ok (.cells<| .row<| .row<| .row<| .row<| .row<| .map (eqMb_rfl _)<| .row<| .cells<| .row<| .row .nil)
theorem sortRun0 (hx:ext n_slices_Sort_Lstring_string=some sortXS) (l:List Evt) (r:Rgs) (slot:Nat):
  callBag (fun m=>callV E ⟨2,3⟩ slot true true (.fn n_slices_Sort_Lstring_string [] []) [.d .nil] m) (mZ l r []++[(⟨2,2,0⟩,.row true ty_string 1 0 [])]) (.d .nil)=some (.tup [],mZ l r []++[(⟨2,2,0⟩,.row true ty_string 1 0 [])]):=by
 have key:Evl.callW E ⟨2,3⟩ slot true true (.fn n_slices_Sort_Lstring_string [] []) [.d .nil] (mZ l r []++[(⟨2,2,0⟩,.row true ty_string 1 0 [])]) fun v m=>v= .tup []∧m=mZ l r []++[(⟨2,2,0⟩,.row true ty_string 1 0 [])]:=by
  repeat' ((conv=>whnf);first
  | refine Yz ?_
   | (refine In.extern (v:= .tup []) (m':=mZ l r []++[(⟨2,2,0⟩,.row true ty_string 1 0 [])]) g.lim hx rfl ?_)
   | (exact⟨rfl,rfl⟩)
   | (exact⟨trivial,rfl⟩)
   | fail)
 obtain⟨q,h1,h2,h3⟩:=Evl.callW_ok key
 have:(q:V×Mem)=(.tup [],mZ l r []++[(⟨2,2,0⟩,.row true ty_string 1 0 [])]):=Prod.ext h2 h3
 rw [←this]
 exact h1
set_option maxHeartbeats 32000000 in
theorem in_sorted (hx:ext n_slices_Sort_Lstring_string=some sortXS) (l:List Evt) (r:Rgs) (ks:List (List UInt8)) (hl:ks.length≤1000) {slot:Nat} {K:V→Mem→Prop} (hK0:ks=[]→K (.d .nil) (mZ l r ks)) (hK:ks≠[]→K (Ws (sortS ks)) (mZ l r ks)):
  In E 2 n_slices_Sorted_string [.fn n_maps_Keys_map_string_bool_string_bool_1 [] [.ptr ⟨1,29,0⟩ 0 0]] (mZ l r ks) fun v m'=>backW ⟨1,2⟩ slot true v m' K:=by
 refine In.enter (f:=n_slices_Sorted_string) g.lim rfl rfl ?_
 have hs:=(sortS_perm ks).length_eq
 cases ks with
 | nil=>
  have h0:=keysR0 (E:=E) l r
  have hK:=hK0 rfl
  repeat' ((conv=>whnf);first
  | refine Yz ?_
   | (refine In.enter (f:=n_slices_Collect_string) g.lim rfl rfl ?_)
   | (refine In.enter (f:=n_slices_AppendSeq_Lstring_string) g.lim rfl rfl ?_)
   | (refine In.enter (f:=n_maps_Keys_map_string_bool_string_bool_1) g.lim rfl rfl ?_)
   | (refine⟨_,_,_,h0,?_⟩)
   | (refine Some'.mk ⟨(.d .nil,mZ l r []++[(⟨2,2,0⟩,.row true ty_string 1 0 []),(⟨3,2,0⟩,.row true ty_string 1 0 [])]),rfl,?_⟩)
   | (refine Some'.mk ⟨(.d .nil,mZ l r []++[(⟨2,2,0⟩,.row true ty_string 1 0 [])]),rfl,?_⟩)
   | (refine⟨_,sortRun0 g hx l r 7,?_⟩)
   | (exact hK)
   | fail)
 | cons k kr=>
  have h1:=keysR g l r k kr (by simp at hl;omega)
  have hK:=hK (by simp)
  rw [Ws,hs,List.length_cons] at hK
  repeat' ((conv=>whnf);first
  | refine Yz ?_
   | (simp only [Evl.idsAll,Evl.idsO,ids_ents,List.nil_append])
   | (refine In.enter (f:=n_slices_Collect_string) g.lim rfl rfl ?_)
   | (refine In.enter (f:=n_slices_AppendSeq_Lstring_string) g.lim rfl rfl ?_)
   | (refine In.enter (f:=n_maps_Keys_map_string_bool_string_bool_1) g.lim rfl rfl ?_)
   | (refine⟨_,_,_,h1,?_⟩)
   | (refine Some'.mk ⟨(.ref ⟨3,4,0⟩ 0 (kr.length+1) (kr.length+1),mZ l r (k::kr)++[(⟨2,2,0⟩,.row true ty_string 1 0 []),(⟨3,2,0⟩,.row true ty_string 1 0 []),(⟨3,4,0⟩,.bag ty_string 1 (kr.length+1) ((k::kr).map D.str))]),rfl,?_⟩)
   | (refine Some'.mk ⟨(.ref ⟨2,5,0⟩ 0 (kr.length+1) (kr.length+1),mA3 l r (k::kr) (.bag ty_string 1 (kr.length+1) ((k::kr).map D.str))),rfl,?_⟩)
   | (refine⟨_,sortRun g hx l r (k::kr) (kr.length+1) 7 rfl (by omega) (by simp at hl;omega),?_⟩)
   | (refine Need.mk ⟨rfl,by omega⟩ ?_)
   | (exact hK)
   | (simp only [and_self,if_true];exact hK)
   | fail)
end
end Go.Proofs.YtcbddkeiohdocaaGreatDoor.Co
/-
 The slots of all series as of a day of knowledge, by the program.
-/
namespace Go.Proofs.YtcbddkeiohdocaaGreatDoor.Co
open Go Go.Evl
structure Slt where
 sr:List UInt8
 mi:Int
def Slt.cells (t:Slt):List D:=[.str t.sr,DI t.mi]
theorem sltw (t:Slt):t.cells.length=2:=rfl
abbrev LS2 (l:List Slt):V:= .d (.list l.length (l.flatMap Slt.cells))
def addK (ks:List (List UInt8)) (s:List UInt8):List (List UInt8):=if s∈ks then ks else ks++[s]
def srK (es:List Ent):List (List UInt8):=es.foldl (fun ks x=>addK ks x.sr) []
theorem srK_take (es:List Ent) (k:Nat) (h:k<es.length):srK (es.take (k+1))=addK (srK (es.take k)) es[k].sr:=by
 unfold srK
 rw [List.take_succ_eq_append_getElem h,List.foldl_append]
 rfl
theorem addK_len (ks:List (List UInt8)) (s:List UInt8):(addK ks s).length≤ks.length+1:=by
 unfold addK
 split
 ·omega
 ·simp
theorem srK_len (es:List Ent):(srK es).length≤es.length:=by
 have key:∀(es:List Ent) (ks:List (List UInt8)),(es.foldl (fun ks x=>addK ks x.sr) ks).length≤ks.length+es.length:=by
  intro es
  induction es with
  | nil=>intro ks;simp
  | cons x es ih=>
   intro ks
   rw [List.foldl_cons]
   have:=ih (addK ks x.sr)
   have:=addK_len ks x.sr
   simp only [List.length_cons];omega
 have:=key es []
 simpa [srK] using this
theorem setE_ents (s:List UInt8):∀ks:List (List UInt8),Evl.setE (.str s) (B true) (entsK ks)=some (entsK (addK ks s))
 | []=>rfl
 | q::ks=>by
  unfold entsK
  rw [List.map_cons,Evl.setE]
  have he:Evl.eqD (.str s) (.str q)=some (s==q):=rfl
  simp only [he]
  by_cases e:s=q
  ·subst e
   simp [addK]
  ·have:(s==q)=false:=beq_eq_false_iff_ne.2 e
   rw [this]
   dsimp only
   have ih:=setE_ents s ks
   unfold entsK at ih
   rw [ih]
   by_cases hm:s∈ks
   ·simp [addK,hm]
   ·have:¬s∈q::ks:=by simp [e,hm]
    simp [addK,hm,this]
def sltL (r:Rgs) (kn d:Int) (ks:List (List UInt8)):List Slt:=(ks.filter fun s=>decide (minE r s kn d≠1440)).map fun s=>⟨s,minE r s kn d⟩
theorem filter_takeS (p:List UInt8→Bool) (l:List (List UInt8)) (k:Nat) (h:k<l.length):(l.take (k+1)).filter p=(l.take k).filter p++if p l[k] then [l[k]] else []:=filter_take p l k h
def sltE (r:Rgs) (kn d:Int):List Slt:=sltL r kn d (sortS (srK r.es))
section
variable {E : Oracle} (g : Good E)
include g
set_option maxRecDepth 100000
set_option maxHeartbeats 32000000 in
theorem in_slots (hx:ext n_slices_Sort_Lstring_string=some sortXS) (l:List Evt) (r:Rgs) (ho:OkR r) (kn d:Int) {slot:Nat} {K:V→Mem→Prop} (hK:K (LS2 (sltE r kn d)) (mS 0 17 l r)):
  In E 1 n_office_Register_slots [.ptr ⟨0,17,0⟩ 1 0,I kn,I d] (mS 0 17 l r) fun v m'=>backW ⟨0,1⟩ slot true v m' K:=by
 have hes:=ho.es
 have hml:(r.es.flatMap Ent.cells).length=r.es.length*8:=flatR_length Ent.cells 8 entw r.es
 refine In.enter (f:=n_office_Register_slots) g.lim rfl rfl ?_
 repeat' ((conv=>whnf);first
 | refine Yz ?_
  | fail)
 refine LoopW.to (LoopW.up g (fun k=>[(0,.ptr ⟨0,17,0⟩ 1 0),(1,I kn),(2,I d),(7,.mp ⟨1,14,0⟩),(18,.ref ⟨0,17,2⟩ 0 r.es.length r.es.length),(19,I r.es.length),(20,I k)])
  (fun k=>mT l r++[(⟨1,14,0⟩,.map (entsK (srK (r.es.take k))))]) r.es.length (fun k hk ih=> ?_) 0 (Nat.zero_le _)) rfl rfl
 by_cases hlt:k<r.es.length
 ·have ih:=ih hlt
  rw [srK_take r.es k hlt] at ih
  have hwin:win (r.es.flatMap Ent.cells) ((0+((k:Nat):Int).toNat)*8) 8=r.es[k].cells:=by
   rw [Nat.zero_add,Int.toNat_natCast]
   exact flatR_win Ent.cells 8 entw r.es k hlt
  have hse:=setE_ents r.es[k].sr (srK (r.es.take k))
  repeat' ((conv=>whnf);first
  | refine Yz ?_
   | (rw [hwin])
   | (refine SetW.mk ⟨_,hse,?_⟩)
   | (simp only [Evl.idsAll,Evl.idsO,ids_ents,List.nil_append])
   | (refine LoopW.to ih rfl rfl)
   | fail)
 clear ih
 rw [List.take_of_length_le (by omega)]
 have hkl:(srK r.es).length≤256:=Nat.le_trans (srK_len r.es) hes
 unfold sltE at hK
 generalize srK r.es=ks at *
 have hsl:=(sortS_perm ks).length_eq
 by_cases hks:ks=[]
 ·subst hks
  repeat' ((conv=>whnf);first
  | refine Yz ?_
   | (refine In.enter (f:=n_maps_Keys_map_string_bool_string_bool) g.lim rfl rfl ?_)
   | (refine Some'.mk ⟨(.fn n_maps_Keys_map_string_bool_string_bool_1 [] [.ptr ⟨1,29,0⟩ 0 0],mZ l r []),rfl,?_⟩)
   | (refine in_sorted g hx l r [] (by simp) (slot:=30) (fun _=> ?_) (fun h=>absurd rfl h))
   | (refine LoopW.step g.lim ?_)
   | (refine Need.mk ⟨rfl,by omega⟩ ?_)
   | (exact hK)
   | fail)
 ·repeat' ((conv=>whnf);first
 | refine Yz ?_
   | (simp only [Evl.idsAll,Evl.idsO,ids_ents,List.nil_append])
   | (refine In.enter (f:=n_maps_Keys_map_string_bool_string_bool) g.lim rfl rfl ?_)
   | (refine Some'.mk ⟨(.fn n_maps_Keys_map_string_bool_string_bool_1 [] [.ptr ⟨1,29,0⟩ 0 0],mZ l r ks),rfl,?_⟩)
   | (refine in_sorted g hx l r ks (by omega) (slot:=30) (fun h=>absurd h hks) (fun _=> ?_))
   | fail)
  generalize sortS ks=ss at *
  refine LoopW.to (LoopW.by (σ:=Nat×List Slt) g (fun u=>u.1≤ss.length∧u.2=sltL r kn d (ss.take u.1))
   (fun u=>[(0,.ptr ⟨0,17,0⟩ 1 0),(1,I kn),(2,I d),(10,.ref ⟨1,10,0⟩ 0 u.2.length u.2.length),(30,Ws ss),(31,I ss.length),(32,I u.1)])
   (fun u=>mT l r++[(⟨1,14,0⟩,.map (entsK ks)),(⟨1,10,0⟩,.row false ty_office_Slot 2 u.2.length (u.2.flatMap Slt.cells)),(⟨1,29,0⟩,.cells ty_map_string_bool [.mp ⟨1,14,0⟩])])
   (fun u=>ss.length-u.1) ?_ (0,[]) ⟨Nat.zero_le _,rfl⟩) rfl rfl
  rintro⟨k,out⟩ ⟨i1,i2⟩ ih
  dsimp only at i1 i2 ih ⊢
  have hmo:(out.flatMap Slt.cells).length=out.length*2:=flatR_length Slt.cells 2 sltw out
  have hol:out.length≤256:=by
   rw [i2,sltL,List.length_map]
   refine Nat.le_trans (List.length_filter_le _ _) ?_
   rw [List.length_take];omega
  by_cases hlt:k<ss.length
  ·have hq:=q_minute g ty_office_history l r ho ss[k] kn d
   have ht:sltL r kn d (ss.take (k+1))=out++(if decide (minE r ss[k] kn d≠1440) then [ss[k]] else []).map fun s=>(⟨s,minE r s kn d⟩:Slt):=by
    rw [i2,sltL,filter_takeS _ _ _ hlt,List.map_append]
    rfl
   have hpk:∀ {K:D→Prop},K (.str ss[k])→Pick (ss.map D.str) (((k:Nat):Int).toNat*1) K:=fun h=>Pick.ws k rfl hlt h
   by_cases hy:minE r ss[k] kn d=1440
   ·have ih:=ih (k+1,out) ⟨by dsimp only;omega,by dsimp only;rw [ht,if_neg (by simp [hy])];simp⟩ (by dsimp only;omega)
    rw [hy] at hq
    generalize ss[k]=s at *
    repeat' ((conv=>whnf);first
    | refine Yz ?_
     | (simp only [Evl.idsAll,Evl.idsO,ids_ents,List.nil_append])
     | (refine hpk ?_)
     | (refine QryW.of (r':=I 1440) [⟨0,17,0⟩,⟨0,17,1⟩,⟨0,17,2⟩,⟨0,17,3⟩,⟨0,17,4⟩] rfl rfl rfl rfl hq rfl rfl rfl ?_)
     | (refine Cmp.tt rfl ?_)
     | (refine LoopW.to ih rfl rfl)
     | fail)
   ·have ih:=ih (k+1,out++[⟨ss[k],minE r ss[k] kn d⟩]) ⟨by dsimp only;omega,by dsimp only;rw [ht,if_pos (decide_eq_true hy)];rfl⟩ (by dsimp only;omega)
    simp only [List.length_append,List.length_cons,List.length_nil,List.flatMap_append,List.flatMap_cons,List.flatMap_nil] at ih
    generalize ss[k]=s at *
    generalize minE r s kn d=y at *
    repeat' ((conv=>whnf);first
    | refine Yz ?_
     | (simp only [Evl.idsAll,Evl.idsO,ids_ents,List.nil_append])
     | (refine hpk ?_)
     | (refine QryW.of (r':=I y) [⟨0,17,0⟩,⟨0,17,1⟩,⟨0,17,2⟩,⟨0,17,3⟩,⟨0,17,4⟩] rfl rfl rfl rfl hq rfl rfl rfl ?_)
     | (refine Cmp.tt rfl ?_)
     | (refine Cmp.ff hy ?_)
     | (refine Cmp.ff (fun h=>hy h.2) ?_)
     | (refine Cmp.ff (fun h=>hy h.2.1) ?_)
     | (refine Need.mk ⟨rfl,rfl,rfl,rfl,rfl,rfl,by dsimp only;omega,by first |omega|(dsimp only;omega)⟩ ?_)
     | (refine LoopW.to ih rfl rfl)
     | fail)
  ·rw [List.take_of_length_le (by omega)] at i2
   rw [←i2] at hK
   repeat' ((conv=>whnf);first
   | refine Yz ?_
    | (refine Need.mk ⟨rfl,by omega⟩ ?_)
    | (refine Need.mk ⟨trivial,trivial⟩ ?_)
    | (simp only [and_self,if_true];exact hK)
    | fail)
def erS (l:List Evt) (kn d:Int):Int:=firstI [erL l,firstI [rng kn 0 99999,rng d 0 99999]]
set_option maxHeartbeats 8000000 in
theorem s_AsOf (hx:ext n_slices_Sort_Lstring_string=some sortXS) (l:List Evt) (hl:l.length≤1000) (hb:∀e∈l,e.ns.length≤1000000∧e.vs.length≤1000000) (kn d:Int):
  Fc E n_office_AsOf [LE l,I kn,I d] (.tup [if erS l kn d=0 then LS2 (sltE (rgL l) kn d) else LS2 [],I (erS l kn d)]):=by
 refine g.fn rfl rfl ?_
 have h2:=s_oday g kn
 have h3:=s_oday g d
 have ha:=@CallS.asked E g l hl hb [rng kn 0 99999,rng d 0 99999] (by simp)
 have hn:=@CallS.askedNo E g l hl hb [rng kn 0 99999,rng d 0 99999] (by simp)
 unfold erS
 generalize rng kn 0 99999=b at *
 generalize rng d 0 99999=c at *
 by_cases hz:firstI [erL l,firstI [b,c]]=0
 ·rw [if_pos hz,hz]
  have ho:OkR (rgL l):=rgL_ok hl (by rw [firstI_zero] at hz;exact hz _ (by simp))
  repeat' ((conv=>whnf);first
  | refine Yz ?_
   | (apply CallI.of;assumption)
   | (refine ha rfl hz ?_)
   | (refine in_slots g hx l (rgL l) ho kn d (slot:=26) ?_)
   | (refine Ret.mk rfl)
   | fail)
 ·rw [if_neg hz]
  repeat' ((conv=>whnf);first
  | refine Yz ?_
   | (apply CallI.of;assumption)
   | (refine hn rfl hz ?_)
   | (refine Cmp.ff hz ?_)
   | (refine Ret.mk rfl)
   | fail)
end
end Go.Proofs.YtcbddkeiohdocaaGreatDoor.Co
/-
 The slots of all series as of a day of knowledge, by the reference; lists of slots.
-/
namespace Go.Proofs.YtcbddkeiohdocaaGreatDoor.Co
open Go Go.Evl
theorem Nf {A B:Prop}:(b:Bool)→b=false→B→(match b with|true=>A|false=>B)
 | false,_,k=>k
 | true,h,_=>Bool.noConfusion h
theorem Nt {A B:Prop}:(b:Bool)→b=true→A→(match b with|true=>A|false=>B)
 | true,_,k=>k
 | false,h,_=>Bool.noConfusion h
theorem nI_hit {u t:Evl.Id} {l:List Evl.Id} (h:idB u t=true):memI (u::l) t=true:=by
 unfold memI
 rw [h]
theorem nI_skip {u t:Evl.Id} {l:List Evl.Id} {b:Bool} (h:idB u t=false) (k:memI l t=b):memI (u::l) t=b:=by
 unfold memI
 rw [h]
 exact k
theorem beq_off {a b:Nat} (h:¬a=b):Nat.beq a b=false:=by
 cases hb:Nat.beq a b with
 | false=>rfl
 | true=>exact absurd (Nat.eq_of_beq_eq_true hb) h
def AscS (l:List (List UInt8)):Prop:=l.Pairwise fun a b=>strLess a b=true
theorem strLess_tri (x y:List UInt8) (h:strLess y x=false) (hn:x≠y):strLess x y=true:=by
 cases hh:strLess x y with
 | true=>rfl
 | false=>
  exfalso
  apply hn
  have key:∀x y:List UInt8,strLess y x=false→strLess x y=false→x=y:=by
   intro x
   induction x with
   | nil=>intro y _ h2;cases y with
    | nil=>rfl
    | cons=>simp [strLess] at h2
   | cons c x ih=>intro y h1 h2;cases y with
    | nil=>simp [strLess] at h1
    | cons d y=>
     simp only [strLess,Bool.or_eq_false_iff,decide_eq_false_iff_not,Bool.and_eq_false_iff,beq_eq_false_iff_ne,ne_eq,UInt8.not_lt] at h1 h2
     have e:c=d:=UInt8.le_antisymm h1.1 h2.1
     subst e
     rw [ih y (h1.2.resolve_left (fun h=>h rfl)) (h2.2.resolve_left (fun h=>h rfl))]
  exact key x y h hh
theorem insS_at (s:List UInt8):∀(l:List (List UInt8)) (k:Nat),k≤l.length→(∀j,(hj:j<l.length)→j<k→strLess l[j] s=true)→(∀j,(hj:j<l.length)→k≤j→strLess s l[j]=true)→insS s l=l.take k++s::l.drop k
 | [],k,_,_,_=>by simp [insS]
 | y::l,0,_,_,h2=>by
  have:=h2 0 (by simp) (Nat.le_refl _)
  simp only [List.getElem_cons_zero] at this
  unfold insS
  rw [strLess_asymm _ _ this]
  rfl
 | y::l,k+1,hk,h1,h2=>by
  have:=h1 0 (by simp) (by omega)
  simp only [List.getElem_cons_zero] at this
  unfold insS
  rw [if_pos this,List.take_succ_cons,List.drop_succ_cons,List.cons_append]
  congr 1
  refine insS_at s l k (by simpa using hk) (fun j hj hjk=> ?_) (fun j hj hjk=> ?_)
  ·have:=h1 (j+1) (by simp;omega) (by omega)
   simpa using this
  ·have:=h2 (j+1) (by simp;omega) (by omega)
   simpa using this
theorem sortS_add {ks:List (List UInt8)} {s:List UInt8}:sortS (ks++[s])=insS s (sortS ks):=by
 have h:(ks++[s]).Perm (s::ks):=List.perm_append_singleton s ks
 rw [sortS_uniq h]
 rfl
theorem sortS_asc {ks:List (List UInt8)} (h:ks.Nodup):AscS (sortS ks):=by
 have h1:=sortS_sorted ks
 have h2:(sortS ks).Nodup:=(sortS_perm ks).nodup_iff.2 h
 unfold AscS
 exact(h1.and h2).imp fun h=>strLess_tri _ _ h.1 h.2
theorem addK_nodup {ks:List (List UInt8)} {s:List UInt8} (h:ks.Nodup):(addK ks s).Nodup:=by
 unfold addK
 split
 ·exact h
 ·rename_i hn
  rw [List.nodup_append]
  refine⟨h,by simp,fun a ha b hb=> ?_⟩
  rw [List.mem_singleton] at hb
  subst hb
  rintro rfl
  exact hn ha
theorem srK_nodup (es:List Ent):(srK es).Nodup:=by
 have key:∀(es:List Ent) (ks:List (List UInt8)),ks.Nodup→(es.foldl (fun ks x=>addK ks x.sr) ks).Nodup:=by
  intro es
  induction es with
  | nil=>intro ks h;exact h
  | cons x es ih=>intro ks h;exact ih _ (addK_nodup h)
 exact key es [] List.nodup_nil
theorem minE_le {r:Rgs} (ho:OkR r) (s:List UInt8) (kn d:Int):0≤minE r s kn d∧minE r s kn d≤1440:=by
 unfold minE
 have key:∀(l:List Ent) (a:Int),(∀x∈l,0≤x.mi∧x.mi≤1440)→0≤a∧a≤1440→0≤l.foldl (fun o x=>if hitE r s kn d x then x.mi else o) a∧l.foldl (fun o x=>if hitE r s kn d x then x.mi else o) a≤1440:=by
  intro l
  induction l with
  | nil=>intro a _ h;exact h
  | cons x l ih=>
   intro a h1 h2
   rw [List.foldl_cons]
   refine ih _ (fun y hy=>h1 y (by simp [hy])) ?_
   split
   ·exact h1 x (by simp)
   ·exact h2
 exact key r.es 1440 ho.mi ⟨by decide,by decide⟩
section
variable {E : Oracle} (g : Good E)
include g
set_option maxRecDepth 100000
set_option maxHeartbeats 16000000 in
theorem r_Series (r:Rgs) (hes:r.es.length≤256):Fc E n_ref10_Series [Rgv r] (Ws (sortS (srK r.es))):=by
 refine g.fn rfl rfl ?_
 have hml:(r.es.flatMap Ent.cells).length=r.es.length*8:=flatR_length Ent.cells 8 entw r.es
 repeat' ((conv=>whnf);first
 | refine Yz ?_
  | fail)
 refine LoopW.to (LoopW.by (σ:=Nat×List (List UInt8)×Option Nat) g (fun u=>u.1≤r.es.length∧u.2.1=sortS (srK (r.es.take u.1))∧(u.2.2=none→u.2.1=[]))
  (fun u=>[(1,.ptr ⟨0,1,0⟩ 0 0),(3,match u.2.2 with
   | none=> .ref ⟨0,3,0⟩ 0 0 0
   | some c=> .ref ⟨0,38,c⟩ 0 u.2.1.length u.2.1.length),(4,I u.1)])
  (fun u=>[bxR 1 r,(⟨0,2,0⟩,.row false ty_string 1 0 []),(⟨0,3,0⟩,.row false ty_string 1 0 [])]++match u.2.2 with
   | none=>[]
   | some c=>[(⟨0,38,c⟩,.row false ty_string 1 u.2.1.length (u.2.1.map D.str))])
  (fun u=>r.es.length-u.1) ?_ (0,[],none) ⟨Nat.zero_le _,rfl,fun _=>rfl⟩) rfl rfl
 rintro⟨k,out,co⟩ ⟨h1,h2,h3⟩ ih
 dsimp only at h1 h2 h3
 have hasc:AscS out:=by rw [h2];exact sortS_asc (srK_nodup _)
 have hol:out.length≤256:=by
  rw [h2,(sortS_perm _).length_eq]
  refine Nat.le_trans (srK_len _) ?_
  rw [List.length_take];omega
 by_cases hlt:k<r.es.length
 ·have hmem:∀s,s∈out↔s∈srK (r.es.take k):=fun s=>by rw [h2];exact(sortS_perm _).mem_iff
  have hk1:=srK_take r.es k hlt
  have hpk:∀ {K:D→Prop},K (.str r.es[k].sr)→Pick (r.es.flatMap Ent.cells) (((k:Nat):Int).toNat*8+2) K:=fun h=>Pick.rec entw k rfl hlt rfl h
  generalize r.es[k].sr=s at *
  have hw:=r_HasWord g out s (by omega)
  have hins:s∉out→∀a:Nat,a≤out.length→(∀j,(hj:j<out.length)→j<a→strLess out[j] s=true)→(∀j,(hj:j<out.length)→a≤j→strLess s out[j]=true)→sortS (srK (r.es.take (k+1)))=out.take a++s::out.drop a:=fun hm a ha h3 h4=>by
   rw [hk1,addK,if_neg (fun h=>hm ((hmem s).2 h)),sortS_add,←h2]
   exact insS_at s out a ha h3 h4
  cases co with
  | none=>
   obtain rfl:=h3 rfl
   have hm:s∉([]:List (List UInt8)):=by simp
   rw [decide_eq_false hm] at hw
   have ih:=ih (k+1,[s],some 0) ⟨by dsimp only;omega,(hins hm 0 (Nat.le_refl _) (fun j hj=>absurd hj (Nat.not_lt_zero _)) (fun j hj=>absurd hj (Nat.not_lt_zero _))).symm,fun h=>by cases h⟩ (by dsimp only;omega)
   dsimp only at ih ⊢
   repeat' ((conv=>whnf);first
   | refine Yz ?_
    | (refine hpk ?_)
    | (rw [if_pos ⟨rfl,rfl⟩])
    | (apply CallI.of;assumption)
    | (refine LoopW.to ih rfl rfl)
    | (refine LoopW.step g.lim ?_)
    | (refine Need.mk ⟨rfl,by omega⟩ ?_)
    | (refine Need.mk ⟨rfl,by omega,rfl⟩ ?_)
    | (refine Bounds.at 0 0 rfl rfl ⟨by omega,by omega⟩ ?_)
    | (refine Need.mk ⟨rfl,rfl,rfl,rfl,rfl,rfl,by dsimp only;omega,by first |omega|(dsimp only;omega)|decide⟩ ?_)
    | (refine Need.mk ⟨rfl,rfl,rfl,rfl,rfl,rfl,by decide,by decide⟩ ?_)
    | (refine LoopW.to ih rfl rfl)
    | fail)
  | some c=>
   clear h3
   dsimp only
   by_cases hm:s∈out
   ·rw [decide_eq_true hm] at hw
    have ih:=ih (k+1,out,some c) ⟨by dsimp only;omega,by dsimp only;rw [hk1,addK,if_pos ((hmem s).1 hm),h2],fun h=>by cases h⟩ (by dsimp only;omega)
    dsimp only at ih
    repeat' ((conv=>whnf);first
    | refine Yz ?_
     | (refine hpk ?_)
     | (refine Nt _ (Nat.beq_refl _) ?_)
     | ((refine Nt _ ?_ ?_);focus ((repeat' (first |exact nI_hit rfl|exact nI_hit (Nat.beq_refl _)|((refine nI_skip ?h ?_);(case h=>first |rfl|assumption))));done))
     | (rw [if_pos ⟨rfl,rfl⟩])
     | (apply CallI.of;assumption)
     | (refine Need.mk ⟨rfl,by omega⟩ ?_)
     | (refine LoopW.to ih rfl rfl)
     | fail)
   ·rw [decide_eq_false hm] at hw
    have hins:=hins hm
    have b1:Nat.beq c (c+1)=false:=beq_off (by omega)
    have b2:Nat.beq (c+1) c=false:=beq_off (by omega)
    have ih:=fun(a:Nat) (ha:a≤out.length) (h3:∀j,(hj:j<out.length)→j<a→strLess out[j] s=true) (h4:∀j,(hj:j<out.length)→a≤j→strLess s out[j]=true)=>ih (k+1,out.take a++s::out.drop a,some (c+1)) ⟨by dsimp only;omega,(hins a ha h3 h4).symm,fun h=>by cases h⟩ (by dsimp only;omega)
    clear hins hmem hk1 h2
    dsimp only at ih
    repeat' ((conv=>whnf);first
    | refine Yz ?_
     | (refine hpk ?_)
     | (refine Nt _ (Nat.beq_refl _) ?_)
     | ((refine Nt _ ?_ ?_);focus ((repeat' (first |exact nI_hit rfl|exact nI_hit (Nat.beq_refl _)|((refine nI_skip ?h ?_);(case h=>first |rfl|assumption))));done))
     | (rw [if_pos ⟨rfl,rfl⟩])
     | (apply CallI.of;assumption)
     | (refine Need.mk ⟨rfl,by omega⟩ ?_)
     | fail)
    refine LoopW.to (LoopW.by (σ:=Nat) g (fun a=>a≤out.length∧∀j,(hj:j<out.length)→a≤j→strLess s out[j]=true)
     (fun a=>[(1,.ptr ⟨0,1,0⟩ 0 0),(3,.ref ⟨0,38,c⟩ 0 out.length out.length),(4,I k),(5,S s),(6,I a)])
     (fun _=>[bxR 1 r,(⟨0,2,0⟩,.row false ty_string 1 0 []),(⟨0,3,0⟩,.row false ty_string 1 0 []),(⟨0,38,c⟩,.row false ty_string 1 out.length (out.map D.str))]) (fun a=>a) ?_ out.length ⟨Nat.le_refl _,fun j hj h=>absurd hj (by omega)⟩) rfl rfl
    rintro a ⟨a1,a2⟩ iha
    have fin:(∀j,(hj:j<out.length)→j<a→strLess out[j] s=true)→_:=fun h3=>ih a a1 h3 a2
    have hwa:win (out.map D.str) ((0+0)*1) ((a-0)*1)=(out.take a).map D.str:=by
     unfold win
     rw [Nat.mul_one,Nat.mul_one,Nat.zero_add,Nat.sub_zero,List.drop_zero,List.map_take]
    have hwb:win (out.map D.str) ((0+a)*1) ((out.length-a)*1)=(out.drop a).map D.str:=by
     unfold win
     rw [Nat.mul_one,Nat.mul_one,Nat.zero_add,List.map_drop,List.take_of_length_le (by rw [List.length_drop,List.length_map];exact Nat.le_refl _)]
    have hla:(out.take a).length=a:=by rw [List.length_take,Nat.min_eq_left a1]
    have hlb:(out.drop a).length=out.length-a:=List.length_drop
    have hml2:(out.take a++s::out.drop a).length=out.length+1:=by
     rw [List.length_append,List.length_cons,hla,hlb];omega
    have hL:out.length+1=0+(a-0)+1+(out.length-a):=by omega
    rw [hml2] at fin
    simp only [List.map_append,List.map_cons] at fin
    have htr:∀x y z:List UInt8,strLess x y=true→strLess y z=true→strLess x z=true:=fun x y z k1 k2=>by
     refine strLess_tri x z (strLess_trans _ _ _ (strLess_asymm _ _ k1) (strLess_asymm _ _ k2)) ?_
     rintro rfl
     rw [strLess_asymm _ _ k1] at k2
     cases k2
    clear ih
    cases a with
    | zero=>
     have fin2:=fin fun j hj h=>absurd h (Nat.not_lt_zero _)
     clear iha fin
     repeat' ((conv=>whnf);first
     | refine Yz ?_
      | (refine Nt _ (Nat.beq_refl _) ?_)
      | (refine Nf _ b1 ?_)
      | (refine Nf _ b2 ?_)
      | ((refine Nt _ ?_ ?_);focus ((repeat' (first |exact nI_hit rfl|exact nI_hit (Nat.beq_refl _)|((refine nI_skip ?h ?_);(case h=>first |rfl|assumption))));done))
      | ((refine Nf _ ?_ ?_);focus ((repeat' (first |exact rfl|((refine nI_skip ?h ?_);(case h=>first |rfl|assumption))));done))
      | (refine Need.mk ⟨rfl,by omega,rfl⟩ ?_)
      | (refine Bounds.at 0 0 rfl (by omega) ⟨Nat.zero_le _,a1⟩ ?_;rw [hwa])
      | (refine Bounds.at 0 out.length (by omega) rfl ⟨a1,Nat.le_refl _⟩ ?_;rw [hwb])
      | (refine Need.mk ⟨rfl,rfl,rfl,rfl,rfl,by first |rfl|(rw [List.length_map];omega),by dsimp only;omega,by first |omega|(dsimp only;omega)⟩ ?_)
      | (refine Chk.mk (by simp [disj,Evl.get,Evl.ids]) ?_)
      | (refine LoopW.to fin2 ?_ ?_)
      | fail)
     ·rw [hL]
      rfl
     ·rw [hL]
      simp
    | succ b=>
     have hbo:b<out.length:=by omega
     have hpb:∀ {K:D→Prop},K (.str out[b])→Pick (out.map D.str) ((0+(((b+1:Nat):Int)-1).toNat)*1) K:=fun h=>by
      rw [Nat.zero_add]
      exact Pick.ws b (by omega) hbo h
     cases hlb2:strLess out[b] s with
     | true=>
      have fin2:=fin fun j hj hjb=>by
       by_cases e:j=b
       ·subst e;exact hlb2
       ·exact htr _ _ _ (List.pairwise_iff_getElem.1 hasc j b hj hbo (by omega)) hlb2
      have hgt:(!(strLess out[b] s||out[b]==s))=false:=by rw [hlb2];rfl
      clear iha fin
      repeat' ((conv=>whnf);first
      | refine Yz ?_
       | (refine hpb ?_)
       | (rw [hgt])
       | (refine Nt _ (Nat.beq_refl _) ?_)
       | (refine Nf _ b1 ?_)
       | (refine Nf _ b2 ?_)
       | ((refine Nt _ ?_ ?_);focus ((repeat' (first |exact nI_hit rfl|exact nI_hit (Nat.beq_refl _)|((refine nI_skip ?h ?_);(case h=>first |rfl|assumption))));done))
       | ((refine Nf _ ?_ ?_);focus ((repeat' (first |exact rfl|((refine nI_skip ?h ?_);(case h=>first |rfl|assumption))));done))
       | (refine Need.mk ⟨rfl,by omega,rfl⟩ ?_)
       | (refine Bounds.at 0 (b+1) rfl (by omega) ⟨Nat.zero_le _,a1⟩ ?_;rw [hwa])
       | (refine Bounds.at (b+1) out.length (by omega) rfl ⟨a1,Nat.le_refl _⟩ ?_;rw [hwb])
       | (refine Need.mk ⟨rfl,rfl,rfl,rfl,rfl,by first |rfl|(rw [List.length_map];omega),by dsimp only;omega,by first |omega|(dsimp only;omega)⟩ ?_)
       | (refine Chk.mk (by simp [disj,Evl.get,Evl.ids]) ?_)
       | (refine LoopW.to fin2 ?_ ?_)
       | fail)
      ·rw [hL]
       rfl
      ·rw [hL]
       simp
     | false=>
      have hne:out[b]≠s:=fun e=>hm (by rw [←e];exact List.getElem_mem hbo)
      have hsb:strLess s out[b]=true:=strLess_tri _ _ hlb2 (Ne.symm hne)
      have hgt:(!(strLess out[b] s||out[b]==s))=true:=by rw [hlb2,beq_eq_false_iff_ne.2 hne];rfl
      have iha:=iha b ⟨by omega,fun j hj hbj=>by
       by_cases e:j=b
       ·subst e;exact hsb
       ·exact a2 j hj (by omega)⟩ (by omega)
      have e1:(((b+1:Nat):Int)-1)=b:=by omega
      clear fin
      repeat' ((conv=>whnf);first
      | refine Yz ?_
       | (refine hpb ?_)
       | (rw [hgt])
       | (refine Nt _ (Nat.beq_refl _) ?_)
       | ((refine Nt _ ?_ ?_);focus ((repeat' (first |exact nI_hit rfl|exact nI_hit (Nat.beq_refl _)|((refine nI_skip ?h ?_);(case h=>first |rfl|assumption))));done))
       | (refine LoopW.to iha (by rw [←e1]) rfl)
       | fail)
 ·rw [List.take_of_length_le (by omega)] at h2
  rw [←h2]
  cases co with
  | none=>
   obtain rfl:=h3 rfl
   repeat' ((conv=>whnf);first
   | refine Yz ?_
    | (refine Need.mk ⟨rfl,by omega⟩ ?_)
    | (refine Ret.mk ?_)
    | fail)
   all_goals simp
  | some c=>
   repeat' ((conv=>whnf);first
   | refine Yz ?_
    | (refine Nt _ (Nat.beq_refl _) ?_)
    | (refine Need.mk ⟨rfl,by omega⟩ ?_)
    | (refine Ret.mk ?_)
    | fail)
   all_goals simp
set_option maxHeartbeats 16000000 in
theorem r_AsOf (r:Rgs) (ho:OkR r) (kn d:Int):Fc E n_ref10_AsOf [Rgv r,I kn,I d] (LS2 (sltE r kn d)):=by
 refine g.fn rfl rfl ?_
 have hs:=r_Series g r ho.es
 have hkl:(sortS (srK r.es)).length≤256:=by rw [(sortS_perm _).length_eq];exact Nat.le_trans (srK_len r.es) ho.es
 unfold sltE
 generalize sortS (srK r.es)=ss at *
 repeat' ((conv=>whnf);first
 | refine Yz ?_
  | (apply CallI.of;assumption)
  | fail)
 refine LoopW.to (LoopW.by (σ:=Nat×List Slt) g (fun u=>u.1≤ss.length∧u.2=sltL r kn d (ss.take u.1))
  (fun u=>[(1,I kn),(2,I d),(3,.ptr ⟨0,3,0⟩ 0 0),(7,Ws ss),(8,.ref ⟨0,8,0⟩ 0 u.2.length u.2.length),(9,I u.1)])
  (fun u=>[bxR 3 r,(⟨0,6,0⟩,.row false ty_turnroundref10_Slot 2 0 []),(⟨0,8,0⟩,.row false ty_turnroundref10_Slot 2 u.2.length (u.2.flatMap Slt.cells))])
  (fun u=>ss.length-u.1) ?_ (0,[]) ⟨Nat.zero_le _,rfl⟩) rfl rfl
 rintro⟨k,out⟩ ⟨i1,i2⟩ ih
 dsimp only at i1 i2 ih ⊢
 have hmo:(out.flatMap Slt.cells).length=out.length*2:=flatR_length Slt.cells 2 sltw out
 have hol:out.length≤256:=by
  rw [i2,sltL,List.length_map]
  refine Nat.le_trans (List.length_filter_le _ _) ?_
  rw [List.length_take];omega
 by_cases hlt:k<ss.length
 ·have hq:=r_Minute g r ho ss[k] kn d
  have hle:=(minE_le ho ss[k] kn d).2
  have ht:sltL r kn d (ss.take (k+1))=out++(if decide (minE r ss[k] kn d≠1440) then [ss[k]] else []).map fun s=>(⟨s,minE r s kn d⟩:Slt):=by
   rw [i2,sltL,filter_takeS _ _ _ hlt,List.map_append]
   rfl
  have hpk:∀ {K:D→Prop},K (.str ss[k])→Pick (ss.map D.str) (((k:Nat):Int).toNat*1) K:=fun h=>Pick.ws k rfl hlt h
  by_cases hy:minE r ss[k] kn d=1440
  ·have ih:=ih (k+1,out) ⟨by dsimp only;omega,by dsimp only;rw [ht,if_neg (by simp [hy])];simp⟩ (by dsimp only;omega)
   rw [hy] at hq
   generalize ss[k]=s at *
   repeat' ((conv=>whnf);first
   | refine Yz ?_
    | (refine hpk ?_)
    | (apply CallI.of;assumption)
    | (refine LoopW.to ih rfl rfl)
    | fail)
  ·have ih:=ih (k+1,out++[⟨ss[k],minE r ss[k] kn d⟩]) ⟨by dsimp only;omega,by dsimp only;rw [ht,if_pos (decide_eq_true hy)];rfl⟩ (by dsimp only;omega)
   simp only [List.length_append,List.length_cons,List.length_nil,List.flatMap_append,List.flatMap_cons,List.flatMap_nil] at ih
   generalize ss[k]=s at *
   generalize minE r s kn d=y at *
   repeat' ((conv=>whnf);first
   | refine Yz ?_
    | (refine hpk ?_)
    | (apply CallI.of;assumption)
    | (refine Need.mk ⟨rfl,rfl,rfl,rfl,rfl,rfl,by dsimp only;omega,by first |omega|(dsimp only;omega)⟩ ?_)
    | (refine LoopW.to ih rfl rfl)
    | fail)
 ·rw [List.take_of_length_le (by omega)] at i2
  rw [←i2]
  repeat' ((conv=>whnf);first
  | refine Yz ?_
   | (refine Need.mk ⟨rfl,by omega⟩ ?_)
   | (refine Ret.mk ?_)
   | fail)
  all_goals simp
theorem v_slots (l:List Slt) (hl:l.length≤100000):Fc E n_law10_slots [LS2 l] (LS2 l):=by
 refine g.fn rfl rfl ?_
 have hml:(l.flatMap Slt.cells).length=l.length*2:=flatR_length Slt.cells 2 sltw l
 repeat' ((conv=>whnf);first
 | refine Yz ?_
  | fail)
 refine LoopW.to (LoopW.by (σ:=List Slt) g (fun u=>u.length≤l.length∧u=l.take u.length)
  (fun u=>[(3,.ref ⟨0,3,0⟩ 0 u.length u.length),(6,LS2 l),(7,I l.length),(8,I u.length)])
  (fun u=>[(⟨0,2,0⟩,.row false ty_turnroundref10_Slot 2 0 []),(⟨0,3,0⟩,.row false ty_turnroundref10_Slot 2 u.length (u.flatMap Slt.cells))])
  (fun u=>l.length-u.length) ?_ [] ⟨Nat.zero_le _,rfl⟩) rfl rfl
 rintro u ⟨h1,h2⟩ ih
 have hmu:(u.flatMap Slt.cells).length=u.length*2:=flatR_length Slt.cells 2 sltw u
 by_cases hlt:u.length<l.length
 ·have hwin:win (l.flatMap Slt.cells) (((u.length:Nat):Int).toNat*2) 2=l[u.length].cells:=by
   rw [Int.toNat_natCast]
   exact flatR_win Slt.cells 2 sltw l u.length hlt
  have ih:=ih (u++[l[u.length]]) ⟨by rw [List.length_append,List.length_singleton];omega,by
   rw [List.length_append,List.length_singleton,List.take_succ_eq_append_getElem hlt,←h2]⟩ (by rw [List.length_append,List.length_singleton];omega)
  simp only [List.length_append,List.length_cons,List.length_nil,List.flatMap_append,List.flatMap_cons,List.flatMap_nil] at ih
  repeat' ((conv=>whnf);first
  | refine Yz ?_
   | (rw [hwin])
   | (refine Need.mk ⟨rfl,rfl,rfl,rfl,rfl,rfl,by dsimp only;omega,by first |omega|(dsimp only;omega)⟩ ?_)
   | (refine LoopW.to ih rfl rfl)
   | fail)
 ·have e:u=l:=by rw [h2,List.take_of_length_le (by omega)]
  subst e
  repeat' ((conv=>whnf);first
  | refine Yz ?_
   | (refine Need.mk ⟨rfl,by omega⟩ ?_)
   | (refine Ret.mk ?_)
   | fail)
  all_goals simp
theorem r_SameSl (l:List Slt) (hl:l.length≤1000000):Fc E n_ref10_SameSlots [LS2 l,LS2 l] (B true):=by
 refine g.fn rfl rfl ?_
 have hml:(l.flatMap Slt.cells).length=l.length*2:=flatR_length Slt.cells 2 sltw l
 repeat' ((conv=>whnf);first
 | refine Yz ?_
  | fail)
 refine LoopW.to (LoopW.up g (fun k=>[(0,LS2 l),(1,LS2 l),(5,I k)]) (fun _=>[]) l.length (fun k hk ih=> ?_) 0 (Nat.zero_le _)) rfl rfl
 by_cases hlt:k<l.length
 ·have ih:=ih hlt
  have hwin:win (l.flatMap Slt.cells) (((k:Nat):Int).toNat*2) 2=l[k].cells:=by
   rw [Int.toNat_natCast]
   exact flatR_win Slt.cells 2 sltw l k hlt
  change win _ _ _=[D.str l[k].sr,DI l[k].mi] at hwin
  repeat' ((conv=>whnf);first
  | refine Yz ?_
   | (rw [hwin])
   | (refine Cmp.tt ⟨rfl,rfl⟩ ?_)
   | (refine Cmp.tt ⟨rfl,rfl,trivial⟩ ?_)
   | (refine Cmp.tt rfl ?_)
   | (refine LoopW.to ih rfl rfl)
   | fail)
 ·repeat' ((conv=>whnf);first
 | refine Yz ?_
   | (refine Ret.mk rfl)
   | fail)
end
end Go.Proofs.YtcbddkeiohdocaaGreatDoor.Co
/-
 Errors of questions about slots; how long their answers are.
-/
namespace Go.Proofs.YtcbddkeiohdocaaGreatDoor.Co
open Go Go.Evl
theorem er_c (l:List Evt) (f:Int):erC l f=firstI [erL l,dayE [f]]:=by
 unfold erC dayE
 rfl
theorem er_r (l:List Evt) (s:List UInt8):erR l s=firstI [erL l,if !isNameB s then 8 else 0]:=by
 unfold erR
 generalize erL l=a
 generalize (if !isNameB s then(8:Int) else 0)=b
 by_cases h1:a=0<;>by_cases h2:b=0<;>simp [firstI,h1,h2]
theorem er_m (l:List Evt) (s:List UInt8) (f d:Int):erM l s f d=firstI [erL l,if !isNameB s then 8 else 0,dayE [f,d]]:=by
 unfold erM dayE
 simp only [List.map_cons,List.map_nil]
 generalize erL l=x
 generalize (if !isNameB s then(8:Int) else 0)=y
 generalize rng f 0 99999=z
 generalize rng d 0 99999=u
 by_cases h1:x=0<;>by_cases h2:y=0<;>by_cases h3:z=0<;>by_cases h4:u=0<;>simp [firstI,h1,h2,h3,h4]
theorem er_s (l:List Evt) (f d:Int):erS l f d=firstI [erL l,dayE [f,d]]:=by
 unfold erS dayE
 rfl
theorem cntL_len {r:Rgs} (ho:OkR r) (kn:Int):(cntL r kn).length≤256:=by
 unfold cntL
 rw [List.length_map]
 exact Nat.le_trans (List.length_filter_le _ _) ho.es
theorem rstL_len {r:Rgs} (ho:OkR r) (on:List UInt8):(rstL r on).length≤256:=by
 unfold rstL
 rw [List.length_map]
 exact Nat.le_trans (List.length_filter_le _ _) ho.es
theorem sltE_len {r:Rgs} (ho:OkR r) (kn d:Int):(sltE r kn d).length≤256:=by
 unfold sltE sltL
 rw [List.length_map]
 refine Nat.le_trans (List.length_filter_le _ _) ?_
 rw [(sortS_perm _).length_eq]
 exact Nat.le_trans (srK_len r.es) ho.es
end Go.Proofs.YtcbddkeiohdocaaGreatDoor.Co
/-
 The fixed example of chapter 10's laws comes out.
-/
namespace Go.Proofs.YtcbddkeiohdocaaGreatDoor.Co
open Go Go.Evl
section
variable {E : Oracle} (g : Good E)
include g
set_option maxRecDepth 100000
set_option maxHeartbeats 4000000 in
theorem s_awake:Fc E n_law10_awake [] (B true):=by
 refine g.fn rfl rfl ?_
 repeat' ((conv=>whnf);first
 | refine Yz ?_
  | (apply CallI.of;first |exact ao1 g|exact ao2 g|exact ao3 g|exact ao4 g|exact ao5 g|exact ao6 g|exact ao7 g|exact ao8 g|exact ao9 g|exact ao10 g|exact ao11 g|exact ao12 g|exact ao13 g|exact ao14 g|exact ao15 g|exact ao16 g|exact ao17 g|exact ao18 g|exact ao19 g|exact ao20 g|exact ao21 g|exact ao22 g|exact ao23 g|exact ao24 g|exact ao25 g|exact ao27 g|exact ao28 g)
  | (refine is0 g ?_)
  | (first |refine is1 g ?_|refine is2 g ?_|refine is3 g ?_|refine is4 g ?_|refine is5 g ?_|refine is6 g ?_|refine is7 g ?_|refine is8 g ?_|refine is9 g ?_|refine is10 g ?_|refine is11 g ?_)
  | (refine Need.mk (by simp only [maxStr,List.length_cons,List.length_nil];omega) ?_)
  | (refine LoopW.step g.lim ?_)
  | (exact Ret.mk rfl))
end
end Go.Proofs.YtcbddkeiohdocaaGreatDoor.Co
/-
 OfficeKnows returns true, for every list of events and every question.
-/
namespace Go.Proofs.YtcbddkeiohdocaaGreatDoor.Co
open Go Go.Evl
set_option maxRecDepth 100000
section
variable {E : Oracle} (g : Good E)
include g
set_option maxHeartbeats 64000000 in
theorem w_OfficeKnows (hx0:ext n_slices_Sort_Lstring_string=some sortXS) (l:List Evt) (x:Askd) (hl0:l.length≤9223372036854775807) (hb:∀e∈l,BigE e) (hx:BigA x):Fc E n_law10_OfficeKnows [LE l,Asv x] (B true):=by
 have aw:=s_awake g
 have hsh:=r_ShortEvents g l 24 (by decide) hl0 (fun e he=>⟨(hb e he).ns,(hb e he).vs,(hb e he).ki,(hb e he).tx,(hb e he).na⟩)
 have hsx:=v_short g x hx
 cases h1:(decide ((l.length:Int)≤24)&&l.all shortB) with
 | false=>
  rw [h1] at hsh
  obtain⟨sr,en,f,c,d,a,b,w⟩:=x
  change Fc E n_law10_OfficeKnows [LE l,.d (.agg [.str sr,.str en,DI f,DI c,DI d,DI a,DI b,DI w])] _
  refine g.fn rfl rfl ?_
  repeat' ((conv=>whnf);first
  | refine Yz ?_
   | (apply CallI.of;assumption)
   | (refine Ret.mk rfl)
   | fail)
 | true=>
 rw [h1] at hsh
 obtain⟨hl,hs⟩:=short_bd h1
 have hl:l.length≤24:=by omega
 have hs':∀e∈l,e.ns.length≤1000000∧e.vs.length≤1000000:=fun e he=>by have:=hs e he;omega
 cases h2:shortA x with
 | false=>
  rw [h2] at hsx
  obtain⟨sr,en,f,c,d,a,b,w⟩:=x
  change Fc E n_law10_OfficeKnows [LE l,.d (.agg [.str sr,.str en,DI f,DI c,DI d,DI a,DI b,DI w])] _
  refine g.fn rfl rfl ?_
  repeat' ((conv=>whnf);first
  | refine Yz ?_
   | (apply CallI.of;assumption)
   | (refine Ret.mk rfl)
   | fail)
 | true=>
 rw [h2] at hsx
 have p1:=s_Counting g l (by omega) hs' x.f
 have p2:=s_Resting g l (by omega) hs' x.en
 have p3:=s_Minute g l (by omega) hs' x.sr x.f x.d
 have p4:=s_AsOf g hx0 l (by omega) hs' x.f x.d
 have p5:=r_Replay g l (by omega) hs'
 have n1:=r_IsName g x.sr
 have n2:=r_IsName g x.en
 have m1:=v_when g (!isNameB x.sr) 8
 have m2:=v_when g (!isNameB x.en) 8
 have d1:=v_days1 g x.f
 have d2:=v_days2 g x.f x.d
 have f1:=v_first2 g (erL l) (dayE [x.f])
 have f2:=v_first2 g (erL l) (if !isNameB x.en then 8 else 0)
 have f3:=v_first3 g (erL l) (if !isNameB x.sr then 8 else 0) (dayE [x.f,x.d])
 have f4:=v_first2 g (erL l) (dayE [x.f,x.d])
 rw [←er_c] at f1
 rw [←er_r] at f2
 rw [←er_m] at f3
 rw [←er_s] at f4
 have z0:∀ {y:Int},erL l≠0→y=erL l→y≠0:=fun h e=>by rw [e];exact h
 have z1:erC l x.f=0→erL l=0:=fun h=>by unfold erC at h;rw [firstI_zero] at h;exact h _ (by simp)
 have z2:erR l x.en=0→erL l=0:=fun h=>by unfold erR at h;rw [firstI_zero] at h;exact h _ (by simp)
 have z3:erM l x.sr x.f x.d=0→erL l=0:=fun h=>by unfold erM at h;rw [firstI_zero] at h;exact h _ (by simp)
 have z4:erS l x.f x.d=0→erL l=0:=fun h=>by unfold erS at h;rw [firstI_zero] at h;exact h _ (by simp)
 have q0:erL l=0→OkR (rgL l):=rgL_ok (by omega)
 have q1:=fun ho=>r_Counting g (rgL l) ho x.f
 have q2:=fun ho=>r_Resting g (rgL l) ho x.en
 have q3:=fun ho=>r_Minute g (rgL l) ho x.sr x.f x.d
 have q4:=fun ho=>r_AsOf g (rgL l) ho x.f x.d
 have q5:=fun h=>r_EntryAt g (rgL l) x.en h
 have k1:=fun ho=>cntL_len (r:=rgL l) ho x.f
 have k2:=fun ho=>rstL_len (r:=rgL l) ho x.en
 have k4:=fun ho=>sltE_len (r:=rgL l) ho x.f x.d
 have s0:=r_SameW g [] (by simp)
 have v0:=v_slots g [] (by simp)
 have u0:=r_SameSl g [] (by simp)
 have w1:=v_when g true 10
 have w0:=v_when g false 10
 obtain⟨sr,en,f,c,d,a,b,w⟩:=x
 dsimp only at *
 change Fc E n_law10_OfficeKnows [LE l,.d (.agg [.str sr,.str en,DI f,DI c,DI d,DI a,DI b,DI w])] _
 clear hs hb hx z0
 by_cases h0:erL l=0
 ·have ho:=q0 h0
  have q1:=q1 ho
  have q2:=q2 ho
  have q3:=q3 ho
  have q4:=q4 ho
  have q5:=q5 (by have:=ho.es;omega)
  have k1:=k1 ho
  have k2:=k2 ho
  have k4:=k4 ho
  have s1:=r_SameW g (cntL (rgL l) f) (by omega)
  have s2:=r_SameW g (rstL (rgL l) en) (by omega)
  have v4:=v_slots g (sltE (rgL l) f d) (by omega)
  have u4:=r_SameSl g (sltE (rgL l) f d) (by omega)
  clear z1 z2 z3 z4 q0 ho
  generalize rgL l=r at *
  generalize erC l f=y1 at *
  generalize erR l en=y2 at *
  generalize erM l sr f d=y3 at *
  generalize erS l f d=y4 at *
  generalize erL l=y0 at *
  generalize cntL r f=c1 at *
  generalize rstL r en=c2 at *
  generalize sltE r f d=c4 at *
  generalize minE r sr f d=c3 at *
  generalize entI r.es en=i at *
  generalize dayE [f]=t1 at *
  generalize dayE [f,d]=t2 at *
  generalize (if !isNameB sr then(8:Int) else 0)=t3 at *
  generalize (if !isNameB en then(8:Int) else 0)=t4 at *
  by_cases e1:y1=0
  all_goals by_cases e2:y2=0
  all_goals by_cases e3:y3=0
  all_goals by_cases e4:y4=0
  all_goals by_cases e5:i<0
  all_goals
   simp only [e1,e2,e3,e4,e5,if_true,if_false] at p1 p2 p3 p4 f1 f2 f3 f4
   refine g.fn rfl rfl ?_
   repeat' ((conv=>whnf);first
   | refine Yz ?_
    | (apply CallI.of;assumption)
    | (refine Cmp.tt rfl ?_)
    | (refine Cmp.ff e1 ?_)
    | (refine Cmp.ff e2 ?_)
    | (refine Cmp.ff e3 ?_)
    | (refine Cmp.ff e4 ?_)
    | (refine Ret.mk rfl)
    | fail)
 ·have e1:erC l f≠0:=fun h=>h0 (z1 h)
  have e2:erR l en≠0:=fun h=>h0 (z2 h)
  have e3:erM l sr f d≠0:=fun h=>h0 (z3 h)
  have e4:erS l f d≠0:=fun h=>h0 (z4 h)
  rw [if_neg e1] at p1
  rw [if_neg e2,if_neg e2] at p2
  rw [if_neg e3] at p3
  rw [if_neg e4] at p4
  clear z1 z2 z3 z4 q0 q1 q2 q3 q4 q5 k1 k2 k4 w1 w0
  generalize rgL l=r at *
  generalize erC l f=y1 at *
  generalize erR l en=y2 at *
  generalize erM l sr f d=y3 at *
  generalize erS l f d=y4 at *
  generalize erL l=y0 at *
  generalize dayE [f]=t1 at *
  generalize dayE [f,d]=t2 at *
  generalize (if !isNameB sr then(8:Int) else 0)=t3 at *
  generalize (if !isNameB en then(8:Int) else 0)=t4 at *
  refine g.fn rfl rfl ?_
  repeat' ((conv=>whnf);first
  | refine Yz ?_
   | (apply CallI.of;assumption)
   | (refine Cmp.tt rfl ?_)
   | (refine Cmp.ff e1 ?_)
   | (refine Cmp.ff e2 ?_)
   | (refine Cmp.ff e3 ?_)
   | (refine Cmp.ff e4 ?_)
   | (refine Ret.mk rfl)
   | fail)
end
theorem s_OfficeKnows {E:Oracle} (g:Good E) {xs:List D} (h:fitArgs Tryz.prog [22,26] xs):Fc E n_law10_OfficeKnows (asV xs) (B true):=by
 obtain⟨x,y,rfl,h1,h2⟩:=args2 h
 obtain⟨l,rfl,hl,hb⟩:=arg_Events h1
 obtain⟨z,rfl,hz⟩:=arg_Asked h2
 exact w_OfficeKnows g rfl l z hl hb hz
end Go.Proofs.YtcbddkeiohdocaaGreatDoor.Co
/-
 Histories and differences, plain: what they say of the minute.
-/
namespace Go.Proofs.YtcbddkeiohdocaaGreatDoor.Co
open Go Go.Evl
def okT:Turn→List Turn→Prop
 | _,[]=>True
 | b,t::ts=>b.kn<t.kn∧t.kn≤99999∧t.mi≠b.mi∧okT t ts
structure KnR (r:Rgs) (ks:List Int):Prop where
 es:∀x∈r.es,x.kn∈ks
 rs:∀z∈r.rs,z.kn∈ks
theorem remB_congr {rs:List Rmv} {k1 k2:Int} (h:∀z∈rs,z.kn≤k1↔z.kn≤k2) (nm:List UInt8):remB rs nm k1=remB rs nm k2:=by
 unfold remB
 induction rs with
 | nil=>rfl
 | cons z rs ih=>
  rw [List.any_cons,List.any_cons,ih fun y hy=>h y (by simp [hy])]
  have:=h z (by simp)
  congr 1
  by_cases e:z.en=nm<;>simp [e,this]
theorem cntE_congr {r:Rgs} {ks:List Int} (hk:KnR r ks) {k1 k2:Int} (h:∀v∈ks,v≤k1↔v≤k2) {x:Ent} (hx:x∈r.es):cntE r x k1=cntE r x k2:=by
 unfold cntE
 have h1:decide (x.kn≤k1)=decide (x.kn≤k2):=by
  have:=h _ (hk.es x hx)
  simp [this]
 have h2:∀y:Ent,remB r.rs y.nm k1=remB r.rs y.nm k2:=fun y=>remB_congr (fun z hz=>h _ (hk.rs z hz)) y.nm
 rw [h1]
 simp only [h2]
theorem fold_congr {α:Type} (p q:α→Bool) (f:α→Int):∀(l:List α) (a:Int),(∀x∈l,p x=q x)→l.foldl (fun o x=>if p x then f x else o) a=l.foldl (fun o x=>if q x then f x else o) a
 | [],_,_=>rfl
 | x::l,a,h=>by
  rw [List.foldl_cons,List.foldl_cons,h x (by simp)]
  exact fold_congr p q f l _ fun y hy=>h y (by simp [hy])
theorem minE_congr {r:Rgs} {ks:List Int} (hk:KnR r ks) {k1 k2:Int} (h:∀v∈ks,v≤k1↔v≤k2) (s:List UInt8) (d:Int):minE r s k1 d=minE r s k2 d:=by
 unfold minE
 refine fold_congr _ _ _ _ _ fun x hx=> ?_
 unfold hitE
 rw [cntE_congr hk h hx]
theorem aft_kn (r:Rgs) (e:Evt):(aftE r e).kn=vlN e 0:=by
 unfold aftE
 split
 ·rfl
 ·split
  ·rfl
  ·split<;>rfl
theorem aft_know {r:Rgs} {ks:List Int} (hk:KnR r ks) (e:Evt):KnR (aftE r e) (ks++[vlN e 0]):=by
 have h1:∀x∈r.es,x.kn∈ks++[vlN e 0]:=fun x hx=>List.mem_append_left _ (hk.es x hx)
 have h2:∀z∈r.rs,z.kn∈ks++[vlN e 0]:=fun z hz=>List.mem_append_left _ (hk.rs z hz)
 unfold aftE
 split
 ·refine⟨fun x hx=> ?_,h2⟩
  rcases List.mem_append.1 hx with hx|hx
  ·exact h1 x hx
  ·rw [List.mem_singleton] at hx;subst hx
   simp [entOf]
 ·split
  ·refine⟨h1,fun z hz=> ?_⟩
   rcases List.mem_append.1 hz with hz|hz
   ·exact h2 z hz
   ·rw [List.mem_singleton] at hz;subst hz
    simp
  ·split
   ·exact⟨h1,h2⟩
   ·refine⟨h1,fun z hz=> ?_⟩
    dsimp only at hz
    split at hz
    ·rcases List.mem_append.1 hz with hz|hz
     ·exact h2 z hz
     ·rw [List.mem_singleton] at hz;subst hz
      simp
    ·exact h2 z hz
theorem replG_know:∀(l:List Evt) (r:Rgs) (n:Nat) (ks:List Int),KnR r ks→(replG r n l).2.2=0→KnR (replG r n l).1 (ks++l.map fun e=>vlN e 0)
 | [],r,n,ks,hk,_=>by simpa [replG] using hk
 | e::l,r,n,ks,hk,h=>by
  rw [replG_cons] at h ⊢
  by_cases hs:stepE r n e≠0
  ·rw [if_pos hs] at h;exact absurd h hs
  ·rw [if_neg hs] at h ⊢
   have:=replG_know l (aftE r e) (n+1) (ks++[vlN e 0]) (aft_know hk e) h
   simpa using this
theorem replG_days:∀(l:List Evt) (r:Rgs) (n:Nat),(replG r n l).2.2=0→(l.map fun e=>vlN e 0).Pairwise (·≤·)∧∀k∈l.map fun e=>vlN e 0,r.kn≤k∧k≤99999
 | [],_,_,_=>⟨List.Pairwise.nil,by simp⟩
 | e::l,r,n,h=>by
  rw [replG_cons] at h
  by_cases hs:stepE r n e≠0
  ·rw [if_pos hs] at h;exact absurd h hs
  ·rw [if_neg hs] at h
   obtain⟨h1,h2⟩:=replG_days l _ _ h
   obtain⟨_,b2,b3,_⟩:=acc_ok (step_ok (Decidable.byContradiction hs)).2
   rw [aft_kn] at h2
   refine⟨?_,fun k hk=> ?_⟩
   ·rw [List.map_cons,List.pairwise_cons]
    exact⟨fun k hk=>(h2 k hk).1,h1⟩
   ·rw [List.map_cons,List.mem_cons] at hk
    rcases hk with rfl|hk
    ·exact⟨b2,b3⟩
    ·have:=h2 k hk;omega
end Go.Proofs.YtcbddkeiohdocaaGreatDoor.Co
/-
 What was known, plain: events that come later change nothing of it.
-/
namespace Go.Proofs.YtcbddkeiohdocaaGreatDoor.Co
open Go Go.Evl
theorem entI_more {es:List Ent} {nm:List UInt8} {k:Nat} (h:entI es nm=k) (more:List Ent):entI (es++more) nm=k:=by
 rcases entI_cases es nm with⟨e,_⟩|⟨j,hj,e,h2,h3⟩
 ·omega
 ·obtain rfl:j=k:=by omega
  refine idxI_at (p:=fun x:Ent=>decide (x.nm=nm)) (by rw [List.length_append];omega) ?_ ?_
  ·rw [List.getElem_append_left hj];exact decide_eq_true h2
  ·intro i hi
   rw [List.getElem_append_left (by omega)]
   exact decide_eq_false (h3 i hi)
structure Lat (r r':Rgs) (F:Int):Prop where
 es:∃more,r'.es=r.es++more∧∀x∈more,F<x.kn
 rm:∀nm,remB r'.rs nm F=remB r.rs nm F
theorem Lat.refl (r:Rgs) (F:Int):Lat r r F:=⟨⟨[],by simp,by simp⟩,fun _=>rfl⟩
theorem Lat.trans {a b c:Rgs} {F:Int} (h:Lat a b F) (k:Lat b c F):Lat a c F:=by
 obtain⟨⟨m1,e1,h1⟩,r1⟩:=h
 obtain⟨⟨m2,e2,h2⟩,r2⟩:=k
 refine⟨⟨m1++m2,by rw [e2,e1,List.append_assoc],fun x hx=> ?_⟩,fun nm=>(r2 nm).trans (r1 nm)⟩
 rcases List.mem_append.1 hx with hx|hx
 ·exact h1 x hx
 ·exact h2 x hx
theorem rem_more {rs:List Rmv} {z:Rmv} {nm:List UInt8} {F:Int} (h:F<z.kn):remB (rs++[z]) nm F=remB rs nm F:=by
 unfold remB
 rw [List.any_append,List.any_cons,List.any_nil,decide_eq_false (by omega),Bool.or_false,Bool.or_false]
theorem aft_lat (r:Rgs) (e:Evt) {F:Int} (h:F<vlN e 0):Lat r (aftE r e) F:=by
 unfold aftE
 split
 ·refine⟨⟨[entOf e],rfl,fun x hx=> ?_⟩,fun _=>rfl⟩
  rw [List.mem_singleton] at hx;subst hx
  exact h
 ·split
  ·exact⟨⟨[],by simp,by simp⟩,fun nm=>rem_more h⟩
  ·split
   ·exact⟨⟨[],by simp,by simp⟩,fun _=>rfl⟩
   ·refine⟨⟨[],by simp,by simp⟩,fun nm=> ?_⟩
    dsimp only
    split
    ·exact rem_more h
    ·rfl
theorem replG_lat:∀(l:List Evt) (r:Rgs) (n:Nat) {F:Int},(replG r n l).2.2=0→(∀e∈l,F<vlN e 0)→Lat r (replG r n l).1 F
 | [],r,_,F,_,_=>Lat.refl r F
 | e::l,r,n,F,h,hd=>by
  rw [replG_cons] at h ⊢
  by_cases hs:stepE r n e≠0
  ·rw [if_pos hs] at h;exact absurd h hs
  ·rw [if_neg hs] at h ⊢
   exact(aft_lat r e (hd e (by simp))).trans (replG_lat l _ _ h fun x hx=>hd x (by simp [hx]))
theorem cnt_lat {r r':Rgs} (ho:OkR r) (ho':OkR r') {F:Int} (h:Lat r r' F):∀(k:Nat) (hk:k<r.es.length),cntE r' r.es[k] F=cntE r r.es[k] F:=by
 obtain⟨⟨more,he,_⟩,hr⟩:=h
 intro k
 induction k using Nat.strongRecOn with
 | _ k ih=>
  intro hk
  have hk':k<r'.es.length:=by rw [he,List.length_append];omega
  have hek:r'.es[k]=r.es[k]:=by simp only [he];exact List.getElem_append_left hk
  rcases ho.bs k hk with hb|⟨j,hj,hb⟩
  ·have h1:=cnt_stop ho' hk' (by rw [hek];exact hb) F
   simp only [hek] at h1
   rw [h1,cnt_stop ho hk hb,hr]
  ·have hb':entI r'.es r.es[k].bs=j:=by rw [he];exact entI_more hb more
   have h1:=cnt_step ho' hk' hj (by rw [hek];exact hb') F
   have hej:r'.es[j]'(by omega)=r.es[j]'(by omega):=by simp only [he];exact List.getElem_append_left (by omega)
   simp only [hek,hej] at h1
   rw [h1,cnt_step ho hk hj hb,hr,ih j hj (by omega)]
theorem cnt_new {r:Rgs} {x:Ent} {F:Int} (h:F<x.kn):cntE r x F=false:=by
 unfold cntE
 rw [decide_eq_false (by omega)]
 rfl
theorem minE_lat {r r':Rgs} (ho:OkR r) (ho':OkR r') {F:Int} (h:Lat r r' F) (s:List UInt8) (d:Int):minE r' s F d=minE r s F d:=by
 have hc:=cnt_lat ho ho' h
 obtain⟨⟨more,he,hm⟩,_⟩:=h
 unfold minE
 rw [he,List.foldl_append,fold_none (hitE r' s F d) Ent.mi more _ fun x hx=>by
  unfold hitE
  rw [cnt_new (hm x hx),Bool.and_false]]
 refine fold_congr _ _ _ _ _ fun x hx=> ?_
 obtain⟨k,hk,rfl⟩:=List.mem_iff_getElem.1 hx
 unfold hitE
 rw [hc k hk]
theorem cntL_lat {r r':Rgs} (ho:OkR r) (ho':OkR r') {F:Int} (h:Lat r r' F):cntL r' F=cntL r F:=by
 have hc:=cnt_lat ho ho' h
 obtain⟨⟨more,he,hm⟩,_⟩:=h
 unfold cntL
 rw [he,List.filter_append]
 have h1:more.filter (fun x=>cntE r' x F)=[]:=by
  rw [List.filter_eq_nil_iff]
  intro x hx
  rw [cnt_new (hm x hx)]
  decide
 rw [h1,List.append_nil]
 congr 1
 refine List.filter_congr fun x hx=> ?_
 obtain⟨k,hk,rfl⟩:=List.mem_iff_getElem.1 hx
 exact hc k hk
theorem filter_insS {p:List UInt8→Bool} {s:List UInt8} (h:p s=false):∀l:List (List UInt8),(insS s l).filter p=l.filter p
 | []=>by simp [insS,h]
 | y::l=>by
  unfold insS
  split
  ·rw [List.filter_cons,List.filter_cons,filter_insS h l]
  ·rw [List.filter_cons,h]
   rfl
theorem sorted_more {p:List UInt8→Bool}:∀(more:List Ent) (ks:List (List UInt8)),(∀x∈more,x.sr∈ks∨p x.sr=false)→(sortS (more.foldl (fun ks x=>addK ks x.sr) ks)).filter p=(sortS ks).filter p
 | [],_,_=>rfl
 | x::more,ks,h=>by
  rw [List.foldl_cons]
  have hx:=h x (by simp)
  have hsub:∀s,s∈ks→s∈addK ks x.sr:=fun s hs=>by
   unfold addK
   split
   ·exact hs
   ·simp [hs]
  rw [sorted_more more (addK ks x.sr) fun y hy=>(h y (by simp [hy])).imp (hsub _) id]
  unfold addK
  split
  ·rfl
  ·rename_i hn
   rw [sortS_add]
   exact filter_insS (hx.resolve_left hn) _
theorem srK_mem (es:List Ent):∀x∈es,x.sr∈srK es:=by
 have key:∀(es:List Ent) (ks:List (List UInt8)) (s:List UInt8),(s∈ks∨∃x∈es,x.sr=s)→s∈es.foldl (fun ks x=>addK ks x.sr) ks:=by
  intro es
  induction es with
  | nil=>
   intro ks s h
   rcases h with h|⟨x,hx,_⟩
   ·exact h
   ·cases hx
  | cons y es ih=>
   intro ks s h
   rw [List.foldl_cons]
   refine ih _ s ?_
   rcases h with h|⟨x,hx,rfl⟩
   ·left;unfold addK;split
    ·exact h
    ·simp [h]
   ·rcases List.mem_cons.1 hx with rfl|hx
    ·left;unfold addK;split
     ·assumption
     ·simp
    ·exact .inr ⟨x,hx,rfl⟩
 exact fun x hx=>key es [] x.sr (.inr ⟨x,hx,rfl⟩)
theorem min_foreign {r:Rgs} {s:List UInt8} (h:s∉srK r.es) (kn d:Int):minE r s kn d=1440:=by
 refine minE_none fun j hj=> ?_
 have:r.es[j].sr≠s:=fun e=>h (e▸srK_mem r.es _ (List.getElem_mem hj))
 unfold hitE
 rw [decide_eq_false this]
 rfl
theorem sltE_lat {r r':Rgs} (ho:OkR r) (ho':OkR r') {F:Int} (h:Lat r r' F) (d:Int):sltE r' F d=sltE r F d:=by
 have hm:=fun s=>minE_lat ho ho' h s d
 obtain⟨⟨more,he,_⟩,_⟩:=h
 unfold sltE sltL
 simp only [hm]
 congr 1
 rw [he]
 unfold srK
 rw [List.foldl_append]
 refine sorted_more more _ fun x _=> ?_
 by_cases hx:x.sr∈r.es.foldl (fun ks x=>addK ks x.sr) []
 ·exact .inl hx
 ·refine .inr (decide_eq_false fun hn=>hn (min_foreign hx F d))
theorem cntL_congr {r:Rgs} {ks:List Int} (hk:KnR r ks) {k1 k2:Int} (h:∀v∈ks,v≤k1↔v≤k2):cntL r k1=cntL r k2:=by
 unfold cntL
 congr 1
 exact List.filter_congr fun x hx=>cntE_congr hk h hx
theorem sltE_congr {r:Rgs} {ks:List Int} (hk:KnR r ks) {k1 k2:Int} (h:∀v∈ks,v≤k1↔v≤k2) (d:Int):sltE r k1 d=sltE r k2 d:=by
 unfold sltE sltL
 have hm:=fun s=>minE_congr hk h s d
 simp only [hm]
def fndS (l:List Slt) (s:List UInt8):Int:=l.foldl (fun w t=>if t.sr=s then t.mi else w) 1440
theorem fnd_fold (s:List UInt8) (v:Int):∀(l:List Slt) (a:Int),(∀t∈l,t.sr=s→t.mi=v)→l.foldl (fun w t=>if t.sr=s then t.mi else w) a=if l.any (fun t=>decide (t.sr=s)) then v else a
 | [],a,_=>rfl
 | t::l,a,h=>by
  rw [List.foldl_cons,fnd_fold s v l _ fun x hx=>h x (by simp [hx]),List.any_cons]
  by_cases e:t.sr=s
  ·have:=h t (by simp) e
   rw [if_pos e,this,decide_eq_true e]
   simp
  ·rw [if_neg e,decide_eq_false e,Bool.false_or]
theorem fnd_min (r:Rgs) (s:List UInt8) (kn d:Int):fndS (sltE r kn d) s=minE r s kn d:=by
 unfold fndS
 rw [fnd_fold s (minE r s kn d) _ _ fun t ht e=>by
  unfold sltE sltL at ht
  obtain⟨q,_,rfl⟩:=List.mem_map.1 ht
  dsimp only at e ⊢
  rw [e]]
 split
 ·rfl
 ·rename_i hn
  have hn:(sltE r kn d).any (fun t=>decide (t.sr=s))=false:=by cases hh:(sltE r kn d).any (fun t=>decide (t.sr=s)) with|true=>exact absurd hh hn|false=>rfl
  rw [List.any_eq_false] at hn
  by_cases hs:s∈srK r.es
  ·apply Decidable.byContradiction
   intro hne
   refine hn ⟨s,minE r s kn d⟩ ?_ (decide_eq_true rfl)
   unfold sltE sltL
   exact List.mem_map.2 ⟨s,List.mem_filter.2 ⟨(sortS_perm _).mem_iff.2 hs,decide_eq_true (Ne.symm hne)⟩,rfl⟩
  ·rw [min_foreign hs]
theorem sltE_asc (r:Rgs) (kn d:Int):(sltE r kn d).Pairwise fun a b=>strLess a.sr b.sr=true:=by
 unfold sltE sltL
 rw [List.pairwise_map]
 exact(sortS_asc (srK_nodup r.es)).filter _
theorem sltE_range {r:Rgs} (ho:OkR r) (kn d:Int):∀t∈sltE r kn d,0≤t.mi∧t.mi<1440:=by
 intro t ht
 unfold sltE sltL at ht
 obtain⟨s,hs,rfl⟩:=List.mem_map.1 ht
 have h1:=of_decide_eq_true (List.mem_filter.1 hs).2
 have:=minE_le ho s kn d
 dsimp only
 omega
theorem replG_pre {l:List Evt} (n:Nat) (h:erL l=0):erL (l.take n)=0∧replG (rgL (l.take n)) (l.take n).length (l.drop n)=replG rg0 0 l:=by
 have h1:=replG_app (l.take n) rg0 0 (l.drop n)
 rw [List.take_append_drop] at h1
 by_cases hz:(replG rg0 0 (l.take n)).2.2≠0
 ·rw [if_pos hz] at h1
  have h:(replG rg0 0 l).2.2=0:=h
  rw [h1] at h
  exact absurd h hz
 ·rw [if_neg hz,Nat.zero_add] at h1
  exact⟨Decidable.byContradiction hz,h1.symm⟩
end Go.Proofs.YtcbddkeiohdocaaGreatDoor.Co
/-
 OfficePast returns true, for every list of events and every question.
-/
namespace Go.Proofs.YtcbddkeiohdocaaGreatDoor.Co
open Go Go.Evl
set_option maxRecDepth 100000
theorem dayE2 {f d:Int} (h:dayE [f,d]=0):(0≤f∧f≤99999)∧(0≤d∧d≤99999):=by
 unfold dayE at h
 rw [firstI_zero] at h
 have h1:=h (rng f 0 99999) (by simp)
 have h3:=h (rng d 0 99999) (by simp)
 unfold rng at h1 h3
 split at h1
 ·omega
 split at h3
 ·omega
 omega
theorem erM_in {l:List Evt} {s:List UInt8} {k d:Int} (h0:erL l=0) (hn:isNameB s=true) (hk:0≤k∧k≤99999) (hd:0≤d∧d≤99999):erM l s k d=0:=by
 unfold erM
 rw [h0,hn,show rng k 0 99999=0 from if_neg (by omega),show rng d 0 99999=0 from if_neg (by omega)]
 rfl
theorem erS_in {l:List Evt} {k d:Int} (h0:erL l=0) (hk:0≤k∧k≤99999) (hd:0≤d∧d≤99999):erS l k d=0:=by
 unfold erS
 rw [h0,show rng k 0 99999=0 from if_neg (by omega),show rng d 0 99999=0 from if_neg (by omega)]
 rfl
theorem erC_in {l:List Evt} {k:Int} (h0:erL l=0) (hk:0≤k∧k≤99999):erC l k=0:=by
 unfold erC
 rw [h0,show rng k 0 99999=0 from if_neg (by omega)]
 rfl
theorem known_at {ks:List Int} (hp:ks.Pairwise (·≤·)) (F:Int):∃n,n≤ks.length∧(∀j,(hj:j<ks.length)→j<n→ks[j]≤F)∧∀j,(hj:j<ks.length)→n≤j→F<ks[j]:=by
 induction ks with
 | nil=>exact⟨0,Nat.le_refl _,fun j hj=>absurd hj (Nat.not_lt_zero _),fun j hj=>absurd hj (Nat.not_lt_zero _)⟩
 | cons k ks ih=>
  obtain⟨h1,h2⟩:=List.pairwise_cons.1 hp
  by_cases hk:k≤F
  ·obtain⟨n,a1,a2,a3⟩:=ih h2
   refine⟨n+1,by simp;omega,fun j hj hjn=> ?_,fun j hj hjn=> ?_⟩
   ·cases j with
    | zero=>exact hk
    | succ j=>exact a2 j (by simpa using hj) (by omega)
   ·cases j with
    | zero=>omega
    | succ j=>exact a3 j (by simpa using hj) (by omega)
  ·refine⟨0,Nat.zero_le _,fun j hj h=>absurd h (Nat.not_lt_zero _),fun j hj _=> ?_⟩
   cases j with
   | zero=>simp;omega
   | succ j=>
    have:=h1 (ks[j]'(by simpa using hj)) (List.getElem_mem _)
    simp only [List.getElem_cons_succ]
    omega
theorem fndS_take (l:List Slt) (s:List UInt8) (j:Nat) (hj:j<l.length):fndS (l.take (j+1)) s=if l[j].sr=s then l[j].mi else fndS (l.take j) s:=by
 unfold fndS
 rw [List.take_succ_eq_append_getElem hj,List.foldl_append]
 rfl
section
variable {E : Oracle} (g : Good E)
include g
set_option maxHeartbeats 64000000 in
theorem w_OfficePast (hx0:ext n_slices_Sort_Lstring_string=some sortXS) (l:List Evt) (x:Askd) (hl0:l.length≤9223372036854775807) (hb:∀e∈l,BigE e) (hx:BigA x):Fc E n_law10_OfficePast [LE l,Asv x] (B true):=by
 have aw:=s_awake g
 have hsh:=r_ShortEvents g l 16 (by decide) hl0 (fun e he=>⟨(hb e he).ns,(hb e he).vs,(hb e he).ki,(hb e he).tx,(hb e he).na⟩)
 have hsx:=v_short g x hx
 have p4:=r_IsName g x.sr
 have p6:=v_days2 g x.f x.d
 cases h1:(decide ((l.length:Int)≤16)&&l.all shortB) with
 | false=>
  rw [h1] at hsh
  obtain⟨sr,en,f,c,d,a,b,w⟩:=x
  change Fc E n_law10_OfficePast [LE l,.d (.agg [.str sr,.str en,DI f,DI c,DI d,DI a,DI b,DI w])] _
  refine g.fn rfl rfl ?_
  repeat' ((conv=>whnf);first
  | refine Yz ?_
   | (apply CallI.of;assumption)
   | (refine Ret.mk rfl)
   | fail)
 | true=>
 rw [h1] at hsh
 obtain⟨hl,hs⟩:=short_bd h1
 have hl:l.length≤16:=by omega
 have hs':∀e∈l,e.ns.length≤1000000∧e.vs.length≤1000000:=fun e he=>by have:=hs e he;omega
 cases h2:shortA x with
 | false=>
  rw [h2] at hsx
  obtain⟨sr,en,f,c,d,a,b,w⟩:=x
  change Fc E n_law10_OfficePast [LE l,.d (.agg [.str sr,.str en,DI f,DI c,DI d,DI a,DI b,DI w])] _
  refine g.fn rfl rfl ?_
  repeat' ((conv=>whnf);first
  | refine Yz ?_
   | (apply CallI.of;assumption)
   | (refine Ret.mk rfl)
   | fail)
 | true=>
 rw [h2] at hsx
 cases h3:isNameB x.sr with
 | false=>
  rw [h3] at p4
  obtain⟨sr,en,f,c,d,a,b,w⟩:=x
  change Fc E n_law10_OfficePast [LE l,.d (.agg [.str sr,.str en,DI f,DI c,DI d,DI a,DI b,DI w])] _
  refine g.fn rfl rfl ?_
  repeat' ((conv=>whnf);first
  | refine Yz ?_
   | (apply CallI.of;assumption)
   | (refine Ret.mk rfl)
   | fail)
 | true=>
 rw [h3] at p4
 by_cases h4:dayE [x.f,x.d]≠0
 ·obtain⟨sr,en,f,c,d,a,b,w⟩:=x
  change Fc E n_law10_OfficePast [LE l,.d (.agg [.str sr,.str en,DI f,DI c,DI d,DI a,DI b,DI w])] _
  refine g.fn rfl rfl ?_
  repeat' ((conv=>whnf);first
  | refine Yz ?_
   | (apply CallI.of;assumption)
   | (refine Cmp.tt h4 ?_)
   | (refine Ret.mk rfl)
   | fail)
 have h4:=Decidable.byContradiction h4
 rw [h4] at p6
 have p3:=r_Replay g l (by omega) hs'
 by_cases h6:erL l≠0
 ·obtain⟨sr,en,f,c,d,a,b,w⟩:=x
  change Fc E n_law10_OfficePast [LE l,.d (.agg [.str sr,.str en,DI f,DI c,DI d,DI a,DI b,DI w])] _
  refine g.fn rfl rfl ?_
  repeat' ((conv=>whnf);first
  | refine Yz ?_
   | (apply CallI.of;assumption)
   | (refine Cmp.tt h6 ?_)
   | (refine Ret.mk rfl)
   | fail)
 have h6:=Decidable.byContradiction h6
 rw [h6] at p3
 have ho:OkR (rgL l):=rgL_ok (by omega) h6
 obtain⟨hf,hd⟩:=dayE2 h4
 obtain⟨hsrt,_⟩:=replG_days l rg0 0 h6
 obtain⟨n,hn,hn1,hn2⟩:=known_at hsrt x.f
 rw [List.length_map] at hn
 have hn1:∀j,(hj:j<l.length)→j<n→vlN l[j] 0≤x.f:=fun j hj hjn=>by
  have:=hn1 j (by rw [List.length_map];exact hj) hjn
  simpa using this
 have hn2:∀j,(hj:j<l.length)→n≤j→x.f<vlN l[j] 0:=fun j hj hjn=>by
  have:=hn2 j (by rw [List.length_map];exact hj) hjn
  simpa using this
 obtain⟨hp0,hpl⟩:=replG_pre n h6
 have hpl1:(l.take n).length=n:=by rw [List.length_take,Nat.min_eq_left hn]
 have hop:OkR (rgL (l.take n)):=rgL_ok (by omega) hp0
 have hsp:∀e∈l.take n,e.ns.length≤1000000∧e.vs.length≤1000000:=fun e he=>hs' e (List.mem_of_mem_take he)
 have hlat:Lat (rgL (l.take n)) (rgL l) x.f:=by
  have h7:=replG_lat (l.drop n) (rgL (l.take n)) (l.take n).length (F:=x.f) (by rw [hpl];exact h6) fun e he=>by
   obtain⟨j,hj,rfl⟩:=List.mem_iff_getElem.1 he
   rw [List.length_drop] at hj
   rw [List.getElem_drop]
   exact hn2 _ (by omega) (by omega)
  rw [hpl] at h7
  exact h7
 have hkn:=replG_know (l.take n) rg0 0 [] ⟨by simp [rg0],by simp [rg0]⟩ hp0
 rw [List.nil_append] at hkn
 have hcg:∀v∈(l.take n).map fun e=>vlN e 0,v≤x.f↔v≤99999:=fun v hv=>by
  obtain⟨e,he,rfl⟩:=List.mem_map.1 hv
  obtain⟨j,hj,rfl⟩:=List.mem_iff_getElem.1 he
  rw [List.getElem_take]
  rw [List.length_take] at hj
  have:=hn1 j (by omega) (by omega)
  omega
 have p1:=s_Minute g l (by omega) hs' x.sr x.f x.d
 have p2:=s_Minute g (l.take n) (by omega) hsp x.sr x.f x.d
 have p4:=s_AsOf g hx0 l (by omega) hs' x.f x.d
 have p5:=s_AsOf g hx0 (l.take n) (by omega) hsp 99999 x.d
 have p7:=s_Counting g l (by omega) hs' x.f
 have p8:=s_Counting g (l.take n) (by omega) hsp 99999
 rw [erM_in h6 h3 hf hd,if_pos rfl] at p1
 rw [erM_in hp0 h3 hf hd,if_pos rfl,←minE_lat hop ho hlat] at p2
 rw [erS_in h6 hf hd,if_pos rfl] at p4
 rw [erS_in hp0 (by decide) hd,if_pos rfl,←sltE_congr hkn hcg,←sltE_lat hop ho hlat] at p5
 rw [erC_in h6 hf,if_pos rfl] at p7
 rw [erC_in hp0 (by decide),if_pos rfl,←cntL_congr hkn hcg,←cntL_lat hop ho hlat] at p8
 have hmr:=minE_le ho x.sr x.f x.d
 have hfm:=fnd_min (rgL l) x.sr x.f x.d
 have hasc:=sltE_asc (rgL l) x.f x.d
 have hran:=sltE_range ho x.f x.d
 have hsl:=sltE_len ho x.f x.d
 have s1:=r_SameW g (cntL (rgL l) x.f) (by have:=cntL_len ho x.f;omega)
 have v1:=v_slots g (sltE (rgL l) x.f x.d) (by omega)
 have u1:=r_SameSl g (sltE (rgL l) x.f x.d) (by omega)
 have hch:=replG_chk l rg0 0 h6
 have hLE:LE (l.take n)= .d (.list n ((l.take n).flatMap Evt.cells)):=by rw [LE,hpl1]
 rw [hLE] at p2 p5 p8
 have hwt:win (l.flatMap Evt.cells) (0*5) ((n-0)*5)=(l.take n).flatMap Evt.cells:=by
  unfold win
  rw [Nat.zero_mul,List.drop_zero,Nat.sub_zero,←hpl1,←flatR_length Evt.cells 5 evw (l.take n),hpl1]
  have h8:l.flatMap Evt.cells=(l.take n).flatMap Evt.cells++(l.drop n).flatMap Evt.cells:=by
   rw [←List.flatMap_append,List.take_append_drop]
  rw [h8,List.take_left]
 clear hLE hlat hkn hcg hop hsp hpl hp0 hpl1 ho hsrt h1 h2 hs hb hx h4 h3
 have hml:(l.flatMap Evt.cells).length=l.length*5:=flatR_length Evt.cells 5 evw l
 generalize (l.take n).flatMap Evt.cells=pre at *
 generalize cntL (rgL l) x.f=c1 at *
 generalize sltE (rgL l) x.f x.d=sl at *
 generalize minE (rgL l) x.sr x.f x.d=m at *
 obtain⟨sr,en,f,c,d,a,b,w⟩:=x
 dsimp only at *
 have hmsl:(sl.flatMap Slt.cells).length=sl.length*2:=flatR_length Slt.cells 2 sltw sl
 change Fc E n_law10_OfficePast [LE l,.d (.agg [.str sr,.str en,DI f,DI c,DI d,DI a,DI b,DI w])] _
 refine g.fn rfl rfl ?_
 repeat' ((conv=>whnf);first
 | refine Yz ?_
  | (apply CallI.of;assumption)
  | fail)
 refine LoopW.to (LoopW.up g (fun k=>[(0,LE l),(3,.ptr ⟨0,3,0⟩ 0 0),(8,I k)])
  (fun _=>[(⟨0,3,0⟩,.cells ty_turnroundlaw10_Asked [S sr,S en,I f,I c,I d,I a,I b,I w]),bxR 5 (rgL l)]) n (fun k hk ih=> ?_) 0 (Nat.zero_le _)) rfl rfl
 have hvl:∀hk:k<l.length,∃vr:List Int,D.list l[k].vs.length (l[k].vs.map DI)= .list (vr.length+1) (DI (vlN l[k] 0)::vr.map DI):=fun hk=>by
  obtain⟨kn,vr,hv,hv0⟩:=chk_vs (hch _ (List.getElem_mem hk))
  exact⟨vr,by rw [hv0,hv];rfl⟩
 by_cases hlt:k<n
 ·have ih:=ih hlt
  have hkl:k<l.length:=by omega
  obtain⟨vr,hv⟩:=hvl hkl
  have hle:=hn1 k hkl hlt
  have hpk:∀ {K:D→Prop},K (.list (vr.length+1) (DI (vlN l[k] 0)::vr.map DI))→Pick (l.flatMap Evt.cells) (((k:Nat):Int).toNat*5+3) K:=fun h=>Pick.rec evw k rfl hkl rfl (by rw [hv];exact h)
  generalize vlN l[k] 0=dk at *
  repeat' ((conv=>whnf);first
  | refine Yz ?_
   | (refine hpk ?_)
   | (refine LoopW.to ih rfl rfl)
   | fail)
 ·obtain rfl:k=n:=by omega
  clear ih hn1
  by_cases hkl:k<l.length
  ·obtain⟨vr,hv⟩:=hvl hkl
   have hgt0:=hn2 k hkl (Nat.le_refl _)
   have hpk0:∀ {K:D→Prop},K (.list (vr.length+1) (DI (vlN l[k] 0)::vr.map DI))→Pick (l.flatMap Evt.cells) (((k:Nat):Int).toNat*5+3) K:=fun h=>Pick.rec evw k rfl hkl rfl (by rw [hv];exact h)
   clear hn2 hv hvl
   generalize vlN l[k] 0=dk at *
   repeat' ((conv=>whnf);first
   | refine Yz ?_
    | (refine hpk0 ?_)
    | (refine Bounds.at 0 k (by omega) (by omega) ⟨Nat.zero_le _,hn⟩ ?_;rw [hwt])
    | (apply CallI.of;assumption)
    | (refine Cmp.ff (fun h=>h rfl) ?_)
    | fail)
   refine LoopW.to (LoopW.up g (fun j=>[(3,.ptr ⟨0,3,0⟩ 0 0),(9,I m),(13,LS2 sl),(21,I (fndS (sl.take j) sr)),(170,LS2 sl),(171,I sl.length),(172,I j)])
    (fun _=>[(⟨0,3,0⟩,.cells ty_turnroundlaw10_Asked [S sr,S en,I f,I c,I d,I a,I b,I w]),bxR 5 (rgL l)]) sl.length (fun j hj ihj=> ?_) 0 (Nat.zero_le _)) rfl rfl
   by_cases hltj:j<sl.length
   ·have ihj:=ihj hltj
    rw [fndS_take sl sr j hltj] at ihj
    have hwin:win (sl.flatMap Slt.cells) (((j:Nat):Int).toNat*2) 2=sl[j].cells:=by
     rw [Int.toNat_natCast]
     exact flatR_win Slt.cells 2 sltw sl j hltj
    change win _ _ _=[D.str sl[j].sr,DI sl[j].mi] at hwin
    have hr:=hran _ (List.getElem_mem hltj)
    by_cases hj0:0<j
    ·have hlt2:j-1<sl.length:=by omega
     have has:=List.pairwise_iff_getElem.1 hasc (j-1) j hlt2 hltj (by omega)
     have hgt:(strLess sl[j].sr sl[j-1].sr||sl[j].sr==sl[j-1].sr)=false:=by
      rw [strLess_asymm _ _ has,Bool.false_or,beq_eq_false_iff_ne]
      intro e
      rw [e,strLess_irr] at has
      cases has
     have hpk:∀ {K:D→Prop},K (.str sl[j-1].sr)→Pick (sl.flatMap Slt.cells) ((((j:Nat):Int)-1).toNat*2+0) K:=fun h=>Pick.rec sltw (j-1) (by omega) hlt2 rfl h
     generalize sl[j-1]=t0 at *
     generalize sl[j]=t at *
     by_cases hts:t.sr=sr
     ·rw [if_pos hts] at ihj
      repeat' ((conv=>whnf);first
      | refine Yz ?_
       | (rw [hwin])
       | (refine hpk ?_)
       | (rw [hgt])
       | (refine Cmp.tt hts ?_)
       | (refine LoopW.to ihj rfl rfl)
       | fail)
     ·rw [if_neg hts] at ihj
      repeat' ((conv=>whnf);first
      | refine Yz ?_
       | (rw [hwin])
       | (refine hpk ?_)
       | (rw [hgt])
       | (refine Cmp.ff hts ?_)
       | (refine LoopW.to ihj rfl rfl)
       | fail)
    ·generalize sl[j]=t at *
     by_cases hts:t.sr=sr
     ·rw [if_pos hts] at ihj
      repeat' ((conv=>whnf);first
      | refine Yz ?_
       | (rw [hwin])
       | (refine Cmp.tt hts ?_)
       | (refine LoopW.to ihj rfl rfl)
       | fail)
     ·rw [if_neg hts] at ihj
      repeat' ((conv=>whnf);first
      | refine Yz ?_
       | (rw [hwin])
       | (refine Cmp.ff hts ?_)
       | (refine LoopW.to ihj rfl rfl)
       | fail)
   ·rw [List.take_of_length_le (by omega),hfm]
    repeat' ((conv=>whnf);first
    | refine Yz ?_
     | (apply CallI.of;assumption)
     | (refine Cmp.tt rfl ?_)
     | (refine Ret.mk rfl)
     | fail)
  ·clear hn2 hvl
   repeat' ((conv=>whnf);first
   | refine Yz ?_
    | (refine Bounds.at 0 k (by omega) (by omega) ⟨Nat.zero_le _,hn⟩ ?_;rw [hwt])
    | (apply CallI.of;assumption)
    | (refine Cmp.ff (fun h=>h rfl) ?_)
    | fail)
   refine LoopW.to (LoopW.up g (fun j=>[(3,.ptr ⟨0,3,0⟩ 0 0),(9,I m),(13,LS2 sl),(21,I (fndS (sl.take j) sr)),(170,LS2 sl),(171,I sl.length),(172,I j)])
    (fun _=>[(⟨0,3,0⟩,.cells ty_turnroundlaw10_Asked [S sr,S en,I f,I c,I d,I a,I b,I w]),bxR 5 (rgL l)]) sl.length (fun j hj ihj=> ?_) 0 (Nat.zero_le _)) rfl rfl
   by_cases hltj:j<sl.length
   ·have ihj:=ihj hltj
    rw [fndS_take sl sr j hltj] at ihj
    have hwin:win (sl.flatMap Slt.cells) (((j:Nat):Int).toNat*2) 2=sl[j].cells:=by
     rw [Int.toNat_natCast]
     exact flatR_win Slt.cells 2 sltw sl j hltj
    change win _ _ _=[D.str sl[j].sr,DI sl[j].mi] at hwin
    have hr:=hran _ (List.getElem_mem hltj)
    by_cases hj0:0<j
    ·have hlt2:j-1<sl.length:=by omega
     have has:=List.pairwise_iff_getElem.1 hasc (j-1) j hlt2 hltj (by omega)
     have hgt:(strLess sl[j].sr sl[j-1].sr||sl[j].sr==sl[j-1].sr)=false:=by
      rw [strLess_asymm _ _ has,Bool.false_or,beq_eq_false_iff_ne]
      intro e
      rw [e,strLess_irr] at has
      cases has
     have hpk:∀ {K:D→Prop},K (.str sl[j-1].sr)→Pick (sl.flatMap Slt.cells) ((((j:Nat):Int)-1).toNat*2+0) K:=fun h=>Pick.rec sltw (j-1) (by omega) hlt2 rfl h
     generalize sl[j-1]=t0 at *
     generalize sl[j]=t at *
     by_cases hts:t.sr=sr
     ·rw [if_pos hts] at ihj
      repeat' ((conv=>whnf);first
      | refine Yz ?_
       | (rw [hwin])
       | (refine hpk ?_)
       | (rw [hgt])
       | (refine Cmp.tt hts ?_)
       | (refine LoopW.to ihj rfl rfl)
       | fail)
     ·rw [if_neg hts] at ihj
      repeat' ((conv=>whnf);first
      | refine Yz ?_
       | (rw [hwin])
       | (refine hpk ?_)
       | (rw [hgt])
       | (refine Cmp.ff hts ?_)
       | (refine LoopW.to ihj rfl rfl)
       | fail)
    ·generalize sl[j]=t at *
     by_cases hts:t.sr=sr
     ·rw [if_pos hts] at ihj
      repeat' ((conv=>whnf);first
      | refine Yz ?_
       | (rw [hwin])
       | (refine Cmp.tt hts ?_)
       | (refine LoopW.to ihj rfl rfl)
       | fail)
     ·rw [if_neg hts] at ihj
      repeat' ((conv=>whnf);first
      | refine Yz ?_
       | (rw [hwin])
       | (refine Cmp.ff hts ?_)
       | (refine LoopW.to ihj rfl rfl)
       | fail)
   ·rw [List.take_of_length_le (by omega),hfm]
    repeat' ((conv=>whnf);first
    | refine Yz ?_
     | (apply CallI.of;assumption)
     | (refine Cmp.tt rfl ?_)
     | (refine Ret.mk rfl)
     | fail)
end
theorem s_OfficePast {E:Oracle} (g:Good E) {xs:List D} (h:fitArgs Tryz.prog [22,26] xs):Fc E n_law10_OfficePast (asV xs) (B true):=by
 obtain⟨x,y,rfl,h1,h2⟩:=args2 h
 obtain⟨l,rfl,hl,hb⟩:=arg_Events h1
 obtain⟨z,rfl,hz⟩:=arg_Asked h2
 exact w_OfficePast g rfl l z hl hb hz
end Go.Proofs.YtcbddkeiohdocaaGreatDoor.Co
/-
 OfficeKnows and OfficePast: one base for both cards.
-/
namespace Go.Proofs.YtcbddkeiohdocaaGreatDoor.Co
open Go Go.Evl
theorem s_OfficeTwp {E:Oracle} (g:Good E):(∀xs:List D,fitArgs Tryz.prog [22,26] xs→Fc E n_law10_OfficeKnows (asV xs) (B true))∧(∀xs:List D,fitArgs Tryz.prog [22,26] xs→Fc E n_law10_OfficePast (asV xs) (B true)):=
 ⟨fun _ h=>s_OfficeKnows g h,fun _ h=>s_OfficePast g h⟩
end Go.Proofs.YtcbddkeiohdocaaGreatDoor.Co
