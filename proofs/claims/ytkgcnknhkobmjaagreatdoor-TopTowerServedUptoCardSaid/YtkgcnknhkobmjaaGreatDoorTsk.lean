/-
  TopTowerServed: what its law leans on, part 11.
-/
import Derived.Laws.RangeAny
import Derived.Lib.SplitLaws
import Derived.Test.YtkgcnknhkobmjaaGreatDoorEvX
import Derived.Test.YtkgcnknhkobmjaaGreatDoorRead
import Derived.Test.YtkgcnknhkobmjaaGreatDoorSpBase
import Derived.Test.YtkgcnknhkobmjaaGreatDoorTsj
namespace Go.Proofs.YtkgcnknhkobmjaaGreatDoor.Co
open Go Go.Evl
set_option maxHeartbeats 32000000
set_option maxRecDepth 100000
section
variable {E : Oracle} (g : Good E)
include g
theorem yls (b a:List Rqt) (hb:b.length<=1000000) (ha:a.length<=1000000):
  (zap [zj8 b,zj8 a]≠0->Fc E zfo [LQ b,LQ a] (.tup [LL [],I (zap [zj8 b,zj8 a])]))/\
  (zap [zj8 b,zj8 a]=0->Fc E zfo [LQ b,LQ a] (if 64<(z3r b a).length then .tup [LL [],I 5] else .tup [LL (z3r b a),I 0])):=by
 have h1:=zm3 g b hb
 have h2:=zm3 g a ha
 refine⟨fun hz=> ?_,fun hz=> ?_⟩
 ·refine g.fn rfl rfl ?_
  repeat' ((conv=>whnf);first
  | refine Yz ?_
   | (apply zae.of;assumption)
   | (refine zae.of (zcs g _ _) ?_)
   | (refine Cmp.ff hz ?_)
   | (refine Ret.mk rfl))
 ·generalize hR:(if 64<(z3r b a).length then V.tup [LL [],I 5] else .tup [LL (z3r b a),I 0])=R
  refine g.fn rfl rfl ?_
  repeat' ((conv=>whnf);first
  | refine Yz ?_
   | (apply zae.of;assumption)
   | (refine zae.of (zcs g _ _) ?_)
   | (refine Cmp.tt hz ?_)
   | (refine In.enter (f:=zaw) g.lim rfl rfl ?_))
  clear h1 h2 hz
  refine zaf.to (zaf.up g (fun k=>[(1,.fn zec [] [.ptr ⟨0,7,0⟩ 0 0,.ptr ⟨0,3,0⟩ 0 0]),(5,.ref ⟨1,5,0⟩ 0 ((b.take k).flatMap (dL a)).length ((b.take k).flatMap (dL a)).length),(10,LQ b),(11,I b.length),(12,I k)]) (fun k=>[(⟨0,2,0⟩,.cells zdh [LQ b]),(⟨0,3,0⟩,.cells zdh [LQ a]),(⟨0,4,0⟩,.row false zac 14 0 []),(⟨0,7,0⟩,.cells za0 [.fn zb7 [] []]),(⟨1,4,0⟩,.row false zac 14 0 []),(⟨1,5,0⟩,.row false zac 14 ((b.take k).flatMap (dL a)).length (((b.take k).flatMap (dL a)).flatMap Lnt.cells))]) b.length (fun k hk ih=> ?_) 0 (Nat.zero_le _)) rfl rfl
  by_cases hlt:k<b.length
  ·clear hR
   have hT:=yl1 g a b[k] ha
   have ih:=ih hlt
   rw [yck (dL a) b k hlt] at ih
   have hX:=z8n (yp9 a) b k
   generalize (b.take k).flatMap (dL a)=X at *
   have hfl:=zah Lnt.cells 14 Lnt.cells_length X
   cases hF:twF a b[k] with
   | none=>
    have hq:=hT.1 hF
    rw [show dL a b[k]=[⟨[68],b[k]⟩] by unfold dL;rw [hF],List.flatMap_append,List.length_append] at ih
    repeat' ((conv=>whnf);first
    | refine Yz ?_
     | (refine zal.rec Rqt.cells_length k rfl hlt ?_)
     | (refine In.enter (f:=zec) g.lim rfl rfl ?_)
     | (refine zae.of hq ?_)
     | (refine ze8.mk (by simp only [List.length_cons,List.length_nil];omega) ?_)
     | (refine zaf.to ih rfl rfl))
   | some o=>
    have hq:=hT.2 o hF
    rw [show dL a b[k]=[] by unfold dL;rw [hF],List.append_nil] at ih
    repeat' ((conv=>whnf);first
    | refine Yz ?_
     | (refine zal.rec Rqt.cells_length k rfl hlt ?_)
     | (refine In.enter (f:=zec) g.lim rfl rfl ?_)
     | (refine zae.of hq ?_)
     | (refine zaf.to ih rfl rfl))
  ·obtain rfl:k=b.length:=by omega
   clear ih
   rw [List.take_length]
   have hD:=z2t 1 (yp9 a) b
   unfold z3r at hR
   generalize b.flatMap (dL a)=Dx at *
   repeat' ((conv=>whnf);first
   | refine Yz ?_
    | (refine zko.row (by decide) rfl ?_))
   refine zaf.to (zaf.up g (fun k=>[(2,.ptr ⟨0,2,0⟩ 0 0),(3,.ptr ⟨0,3,0⟩ 0 0),(7,.ptr ⟨0,7,0⟩ 0 0),(8,.ref ⟨0,24,0⟩ 0 (ynq Dx ((b.take k).flatMap (cL a))).length (ynq Dx ((b.take k).flatMap (cL a))).length),(25,LQ b),(26,I b.length),(27,I k)]) (fun k=>[(⟨0,2,0⟩,.cells zdh [LQ b]),(⟨0,3,0⟩,.cells zdh [LQ a]),(⟨0,4,0⟩,.row false zac 14 0 []),(⟨0,7,0⟩,.cells za0 [.fn zb7 [] []]),(⟨0,24,0⟩,.row false zac 14 (ynq Dx ((b.take k).flatMap (cL a))).length ((ynq Dx ((b.take k).flatMap (cL a))).flatMap Lnt.cells))]) b.length (fun k hk ih=> ?_) 0 (Nat.zero_le _)) rfl rfl
   by_cases hlt:k<b.length
   ·clear hR
    have hT:=yl1 g a b[k] ha
    have ih:=ih hlt
    rw [yjq Dx (cL a) hlt] at ih
    have hX:(ynq Dx ((b.take k).flatMap (cL a))).length<=3000000:=by
     have:=z8n (yp8 a) b k
     rw [z6v,List.length_append]
     omega
    generalize ynq Dx ((b.take k).flatMap (cL a))=X at *
    have hfl:=zah Lnt.cells 14 Lnt.cells_length X
    cases hF:twF a b[k] with
    | none=>
     have hq:=hT.1 hF
     rw [show cL a b[k]=[] by unfold cL;rw [hF],List.append_nil] at ih
     repeat' ((conv=>whnf);first
     | refine Yz ?_
      | (refine zal.rec Rqt.cells_length k rfl hlt ?_)
      | (refine zae.of hq ?_)
      | (refine zaf.to ih rfl rfl))
    | some o=>
     have hq:=hT.2 o hF
     by_cases he:o=b[k]
     ·rw [show cL a b[k]=[] by unfold cL;rw [hF];exact if_pos he,List.append_nil] at ih
      have hp:o.nm=b[k].nm/\o.ca=b[k].ca/\o.ki=b[k].ki/\o.te=b[k].te/\o.pa=b[k].pa/\o.li=b[k].li/\o.fr=b[k].fr/\o.to=b[k].to/\o.da=b[k].da/\o.mi=b[k].mi/\o.se=b[k].se/\o.si=b[k].si/\o.no=b[k].no:=by
       rw [he]
       exact⟨rfl,rfl,rfl,rfl,rfl,rfl,rfl,rfl,rfl,rfl,rfl,rfl,rfl⟩
      repeat' ((conv=>whnf);first
      | refine Yz ?_
       | (refine zal.rec Rqt.cells_length k rfl hlt ?_)
       | (refine zae.of hq ?_)
       | (refine Cmp.tt hp ?_)
       | (refine zaf.to ih rfl rfl))
     ·rw [show cL a b[k]=[⟨[67],b[k]⟩,⟨[82],o⟩] by unfold cL;rw [hF];exact if_neg he,List.flatMap_append,List.length_append] at ih
      repeat' ((conv=>whnf);first
      | refine Yz ?_
       | (refine zal.rec Rqt.cells_length k rfl hlt ?_)
       | (refine zae.of hq ?_)
       | (refine Cmp.ff (fun h=>he (yap h)) ?_)
       | (refine ze8.mk (by simp only [List.length_cons,List.length_nil];omega) ?_)
       | (refine zaf.to ih rfl rfl))
   ·obtain rfl:k=b.length:=by omega
    clear ih
    rw [List.take_length]
    have hP:(Dx++b.flatMap (cL a)).length<=3000000:=by
     have:=z2t 2 (yp8 a) b
     rw [List.length_append]
     omega
    rw [z6v]
    generalize Dx++b.flatMap (cL a)=Px at *
    repeat' ((conv=>whnf);first
    | refine Yz ?_
     | (refine In.enter (f:=zaw) g.lim rfl rfl ?_))
    refine zaf.to (zaf.up g (fun k=>[(1,.fn zed [] [.ptr ⟨0,7,0⟩ 0 0,.ptr ⟨0,2,0⟩ 0 0]),(5,.ref ⟨1,5,0⟩ 0 ((a.take k).flatMap (nL b)).length ((a.take k).flatMap (nL b)).length),(10,LQ a),(11,I a.length),(12,I k)]) (fun k=>[(⟨0,2,0⟩,.cells zdh [LQ b]),(⟨0,3,0⟩,.cells zdh [LQ a]),(⟨0,4,0⟩,.row false zac 14 0 []),(⟨0,7,0⟩,.cells za0 [.fn zb7 [] []]),(⟨0,24,0⟩,.row false zac 14 Px.length (Px.flatMap Lnt.cells)),(⟨1,4,0⟩,.row false zac 14 0 []),(⟨1,5,0⟩,.row false zac 14 ((a.take k).flatMap (nL b)).length (((a.take k).flatMap (nL b)).flatMap Lnt.cells))]) a.length (fun k hk ih=> ?_) 0 (Nat.zero_le _)) rfl rfl
    by_cases hlt:k<a.length
    ·clear hR
     have hT:=yl1 g b a[k] hb
     have ih:=ih hlt
     rw [yck (nL b) a k hlt] at ih
     have hX:=z8n (yqc b) a k
     generalize (a.take k).flatMap (nL b)=X at *
     have hfl:=zah Lnt.cells 14 Lnt.cells_length X
     cases hF:twF b a[k] with
     | none=>
      have hq:=hT.1 hF
      rw [show nL b a[k]=[⟨[78],a[k]⟩] by unfold nL;rw [hF],List.flatMap_append,List.length_append] at ih
      repeat' ((conv=>whnf);first
      | refine Yz ?_
       | (refine zal.rec Rqt.cells_length k rfl hlt ?_)
       | (refine In.enter (f:=zed) g.lim rfl rfl ?_)
       | (refine zae.of hq ?_)
       | (refine ze8.mk (by simp only [List.length_cons,List.length_nil];omega) ?_)
       | (refine zaf.to ih rfl rfl))
     | some o=>
      have hq:=hT.2 o hF
      rw [show nL b a[k]=[] by unfold nL;rw [hF],List.append_nil] at ih
      repeat' ((conv=>whnf);first
      | refine Yz ?_
       | (refine zal.rec Rqt.cells_length k rfl hlt ?_)
       | (refine In.enter (f:=zed) g.lim rfl rfl ?_)
       | (refine zae.of hq ?_)
       | (refine zaf.to ih rfl rfl))
    ·obtain rfl:k=a.length:=by omega
     clear ih
     rw [List.take_length]
     have hN:=z2t 1 (yqc b) a
     generalize a.flatMap (nL b)=Nx at *
     have f1:=zah Lnt.cells 14 Lnt.cells_length Px
     have f2:=zah Lnt.cells 14 Lnt.cells_length Nx
     rw [List.length_append] at hR
     by_cases hn:64<Px.length+Nx.length
     ·rw [if_pos hn] at hR
      rw [<-hR]
      repeat' ((conv=>whnf);first
      | refine Yz ?_
       | (rw [if_pos (⟨rfl,rfl⟩:_/\_)])
       | (refine ze8.mk ⟨rfl,rfl,rfl,rfl,rfl,f2,by show (Px.length+Nx.length)*168<=_;omega,by omega⟩ ?_)
       | (refine Ret.mk rfl))
     ·rw [if_neg hn] at hR
      rw [<-hR]
      repeat' ((conv=>whnf);first
      | refine Yz ?_
       | (rw [if_pos (⟨rfl,rfl⟩:_/\_)])
       | (refine ze8.mk ⟨rfl,rfl,rfl,rfl,rfl,f2,by show (Px.length+Nx.length)*168<=_;omega,by omega⟩ ?_)
       | (refine Ret.mk ?_))
      show _=V.tup [V.d (.list (Px++Nx).length ((Px++Nx).flatMap Lnt.cells)),I 0]
      rw [List.flatMap_append,List.length_append]
end
def yop (l:List Ent):List (List UInt8):=l.map (·.rq.nm)
theorem yle {s:List UInt8} {e:Ent} {r:List Ent} (he:e.rq.nm=s):∀l:List Ent,s∉yop l->plc s (l++e::r)=some l.length
 | [],_=>by rw [List.nil_append,plc,if_pos he];rfl
 | y::q,h=>by
  have h1:¬y.rq.nm=s:=fun e'=>h (by simp [yop,e'])
  have h2:s∉yop q:=fun hm=>h (List.mem_cons_of_mem _ hm)
  rw [List.cons_append,plc,if_neg h1,yle he q h2]
  rfl
theorem yqh {s:List UInt8}:∀l:List Ent,s∉yop l->plc s l=none
 | [],_=>rfl
 | y::q,h=>by
  have h1:¬y.rq.nm=s:=fun e'=>h (by simp [yop,e'])
  have h2:s∉yop q:=fun hm=>h (List.mem_cons_of_mem _ hm)
  rw [plc,if_neg h1,yqh q h2]
  rfl
theorem z7l {da:Int} {l l':List Ent} {x:Lnt} {r:List Lnt} (he:zm7 l x=0) (hl:zja l x da=l'):zu0 da l (x::r)=zu0 da l' r:=by
 rw [zu0,if_pos he,hl]
theorem ykm (da:Int):∀(q:List Rqt) (l:List Ent),(∀x∈q,x.nm∉yop l)->(zmz q).Nodup->l.length+q.length<=64->zu0 da l (q.map fun x=>⟨[78],x⟩)=(l++q.map fun x=>⟨x,false,da⟩,0)
 | [],l,_,_,_=>by simp [zu0]
 | x::r,l,h,hu,hl=>by
  have hp:=yqh l (h x (List.mem_cons_self ..))
  have hc:(zmz (x::r))=x.nm::zmz r:=rfl
  rw [hc,List.nodup_cons] at hu
  rw [List.length_cons] at hl
  rw [List.map_cons,z7l (l':=l++[⟨x,false,da⟩]) (by simp only [zm7,hp];rw [if_pos (.inl trivial),if_neg (by omega)]) (by simp only [zja,hp];rfl)]
  refine(ykm da r (l++[⟨x,false,da⟩]) (fun y hy hm=> ?_) hu.2 (by simp;omega)).trans ?_
  rotate_left
  ·simp
  ·unfold yop at hm
   rw [List.map_append,List.mem_append] at hm
   rcases hm with hm|hm
   ·exact h y (List.mem_cons_of_mem _ hy) hm
   ·simp only [List.map_cons,List.map_nil,List.mem_singleton] at hm
    exact hu.1 (hm▸List.mem_map_of_mem hy)
abbrev e0 (x:Rqt):Ent:=⟨x,false,10⟩
theorem ymp {l:List Rqt} {q o:Rqt} (h:twF l q=some o):o∈l/\o.ca=q.ca/\o.nm=q.nm:=by
 unfold twF at h
 have h1:=List.mem_of_find?_eq_some h
 have h2:=List.find?_some h
 simp only [zsf,Bool.and_eq_true,decide_eq_true_eq] at h2
 exact⟨h1,h2⟩
theorem yuf {l:List Rqt} {q o:Rqt} (ho:o∈l) (hc:o.ca=q.ca) (hn:o.nm=q.nm):(twF l q).isSome:=by
 unfold twF
 rw [List.find?_isSome]
 exact⟨o,ho,by simp [zsf,hc,hn]⟩
theorem yva {l:List Rqt} (hu:(zmz l).Nodup) {x y:Rqt} (hx:x∈l) (hy:y∈l) (h:x.nm=y.nm):x=y:=by
 obtain⟨i,hi,rfl⟩:=List.getElem_of_mem hx
 obtain⟨j,hj,rfl⟩:=List.getElem_of_mem hy
 have:=ytq hu hi hj h
 subst this
 rfl
inductive Blk:List Lnt->Prop where
 | no:Blk []
 | new (x:Rqt):zgr x=0->Blk [⟨[78],x⟩]
 | del (x:Rqt):zgr x=0->Blk [⟨[68],x⟩]
 | chg (x o:Rqt):zgr x=0->zgr o=0->zsf x o=true->Blk [⟨[67],x⟩,⟨[82],o⟩]
theorem z0i {p:Option Lnt} {s:List UInt8} {q:Rqt} (h1:zgr q=0) (h0:ysq s=true) (h2:ys7 s=REQ) (h3:((zj7 p||decide (s=[82]))&& !(zj7 p&&decide (s=[82])&&zqj ⟨s,q⟩ p))=false):lnE REQ p ⟨s,q⟩=0:=by
 unfold lnE
 rw [za5]
 intro e he
 simp only [List.mem_cons,List.not_mem_nil,or_false] at he
 rcases he with rfl|rfl|rfl
 ·rw [yns];exact(if_pos h0).trans h1
 ·exact if_pos h2
 ·rw [h3];rfl
theorem yb6:∀(bs:List (List Lnt)) (p:Option Lnt) (i:Nat),zj7 p=false->(∀b∈bs,Blk b)->zkt REQ p i bs.flatten=(0,0)
 | [],p,i,hp,_=>by
  rw [List.flatten_nil,zkt,hp];rfl
 | b::r,p,i,hp,h=>by
  have hb:=h b (List.mem_cons_self ..)
  have ih:=fun p i hp=>yb6 r p i hp fun x hx=>h x (List.mem_cons_of_mem _ hx)
  rw [List.flatten_cons]
  cases hb with
  | no=>exact ih p i hp
  | new x hx=>
   rw [List.cons_append,List.nil_append,zkt,if_pos ?_]
   ·exact ih _ _ rfl
   ·exact z0i hx (by decide) (by decide) (by rw [hp];rfl)
  | del x hx=>
   rw [List.cons_append,List.nil_append,zkt,if_pos ?_]
   ·exact ih _ _ rfl
   ·exact z0i hx (by decide) (by decide) (by rw [hp];rfl)
  | chg x o hx ho ht=>
   rw [List.cons_append,List.cons_append,List.nil_append,zkt,if_pos ?_,zkt,if_pos ?_]
   ·exact ih _ _ rfl
   ·exact z0i ho (by decide) (by decide) (by show (true&& !(true&&zsf x o))=false;rw [ht];rfl)
   ·exact z0i hx (by decide) (by decide) (by rw [hp];rfl)
theorem yq6 {b a:List Rqt} (hb:∀x∈b,zgr x=0) (ha:∀x∈a,zgr x=0):zkt REQ none 0 (z3r b a)=(0,0):=by
 have e:z3r b a=(b.map (dL a)++b.map (cL a)++a.map (nL b)).flatten:=by
  unfold z3r
  simp only [List.flatMap,List.flatten_append]
 rw [e]
 refine yb6 _ none 0 rfl fun x hx=> ?_
 simp only [List.mem_append,List.mem_map] at hx
 rcases hx with(⟨y,hy,rfl⟩|⟨y,hy,rfl⟩)|⟨y,hy,rfl⟩
 ·unfold dL
  split
  ·exact .del y (hb y hy)
  ·exact .no
 ·unfold cL
  split
  ·exact .no
  ·rename_i o hF
   have hm:=ymp hF
   split
   ·exact .no
   ·exact .chg y o (hb y hy) (ha o hm.1) (by simp [zsf,hm.2.1,hm.2.2])
 ·unfold nL
  split
  ·exact .new y (ha y hy)
  ·exact .no
theorem yq7 {b:List Rqt} (hb:∀x∈b,zgr x=0):zkt REQ none 0 (b.map fun x=>⟨[78],x⟩)=(0,0):=by
 have e:(b.map fun x=>(⟨[78],x⟩:Lnt))=(b.map fun x=>[(⟨[78],x⟩:Lnt)]).flatten:=by
  induction b with
  | nil=>rfl
  | cons x r ih=>rw [List.map_cons,List.map_cons,List.flatten_cons,ih fun y hy=>hb y (List.mem_cons_of_mem _ hy)];rfl
 rw [e]
 refine yb6 _ none 0 rfl fun x hx=> ?_
 obtain⟨y,hy,rfl⟩:=List.mem_map.1 hx
 exact .new y (hb y hy)
def zk4 (l:List Rqt) (k:Nat) (m:Int):List Rqt:=l.modify k fun q=>ycw q m
theorem zcg (l:List Rqt) (k:Nat) (m:Int):(zk4 l k m).length=l.length:=List.length_modify ..
theorem zrh {l:List Rqt} {k:Nat} (hk:k<l.length) (m:Int) (i:Nat) (hi:i<l.length):(zk4 l k m)[i]'(by rw [zcg];exact hi)=if k=i then ycw l[k] m else l[i]:=by
 have h:=List.getElem_modify (fun q=>ycw q m) k l i (by rw [List.length_modify];exact hi)
 refine Eq.trans h ?_
 by_cases e:k=i
 ·subst e;rfl
 ·rw [if_neg e,if_neg e]
theorem z6n {l:List Rqt} {k:Nat} (hk:k<l.length) (m:Int):zk4 l k m=l.set k (ycw l[k] m):=by
 refine List.ext_getElem (by rw [zcg,List.length_set]) fun i h1 h2=> ?_
 rw [zcg] at h1
 rw [zrh hk m i h1,List.getElem_set]
theorem yel {l:List Rqt} {k:Nat} (hk:k<l.length) (m:Int):zmz (zk4 l k m)=zmz l:=by
 unfold zmz
 refine List.ext_getElem (by rw [List.length_map,List.length_map,zcg]) fun i h1 h2=> ?_
 rw [List.getElem_map,List.getElem_map,zrh hk m i (by simpa using h2)]
 split
 ·rename_i e;subst e;rfl
 ·rfl
theorem z88:∀(l:List Rqt) (seen:List (List UInt8)),(zmz l).Nodup->(∀s∈zmz l,s∉seen)->(∀x∈l,zgr x=0)->znr seen l=0
 | [],_,_,_,_=>rfl
 | x::r,seen,hu,hs,hc=>by
  have e:zmz (x::r)=x.nm::zmz r:=rfl
  rw [e,List.nodup_cons] at hu
  rw [e] at hs
  have hz:zap [zgr x,if x.nm∈seen then 9 else 0]=0:=by
   rw [za5]
   simp only [List.mem_cons,List.not_mem_nil,or_false,forall_eq_or_imp,forall_eq]
   exact⟨hc x (List.mem_cons_self ..),if_neg (hs _ (List.mem_cons_self ..))⟩
  rw [znr,if_pos hz]
  refine z88 r _ hu.2 (fun s hm hm2=> ?_) fun y hy=>hc y (List.mem_cons_of_mem _ hy)
  rcases List.mem_append.1 hm2 with h|h
  ·exact hs s (List.mem_cons_of_mem _ hm) h
  ·rw [List.mem_singleton] at h
   subst h
   exact hu.1 hm
theorem ybn {l:List Rqt} (h:zy8 l) {k:Nat} (hk:k<l.length) {m:Int} (hm:0<=m/\m<=1439):zy8 (zk4 l k m):=by
 have each:∀q∈zk4 l k m,∃p∈l,q=p\/q=ycw p m:=fun q hq=>by
  obtain⟨i,hi,rfl⟩:=List.getElem_of_mem hq
  rw [zcg] at hi
  rw [zrh hk m i hi]
  split
  ·exact⟨l[k],List.getElem_mem hk,.inr rfl⟩
  ·exact⟨l[i],List.getElem_mem hi,.inl rfl⟩
 refine⟨by rw [zcg];exact h.len,?_,fun q hq=> ?_,fun q hq=> ?_⟩
 ·unfold zj8
  rw [zcg,if_neg (by have:=h.len;omega)]
  refine z88 _ _ (by rw [yel hk];exact h.nd) (fun _ _=>List.not_mem_nil) fun q hq=> ?_
  obtain⟨p,hp,rfl|rfl⟩:=each q hq
  ·exact h.ok _ hp
  ·exact yev (h.ok _ hp) hm
 ·obtain⟨p,hp,rfl|rfl⟩:=each q hq
  ·exact h.li _ hp
  ·exact h.li p hp
 ·obtain⟨p,hp,rfl|rfl⟩:=each q hq
  ·exact h.few _ hp
  ·exact h.few p hp
def ztx (l:List Rqt) (k:Nat) (m:Int):List Wsh:=List.zipWith (fun w q=>{w with r:=q}) (l.map zuy) (zk4 l k m)
theorem zfv (l:List Rqt) (k:Nat) (m:Int):(ztx l k m).length=l.length:=by
 unfold ztx
 rw [List.length_zipWith,List.length_map,zcg,Nat.min_self]
theorem z6o {l:List Rqt} {k:Nat} (m:Int) (i:Nat) (hi:i<l.length):(ztx l k m)[i]'(by rw [zfv];exact hi)=⟨(zk4 l k m)[i]'(by rw [zcg];exact hi),(zuy l[i]).ea,(zuy l[i]).la⟩:=by
 have h:=List.getElem_zipWith (f:=fun(w:Wsh) (q:Rqt)=>{w with r:=q}) (l:=l.map zuy) (l':=zk4 l k m) (i:=i) (h:=by rw [List.length_zipWith,List.length_map,zcg,Nat.min_self];exact hi)
 refine Eq.trans h ?_
 rw [List.getElem_map]
theorem yne {l:List Rqt} {k:Nat} (hk:k<l.length) (m:Int):ztx l k m=(l.map zuy).set k (yjh ((l.map zuy)[k]'(by rw [List.length_map];exact hk)) m):=by
 refine List.ext_getElem (by rw [zfv,List.length_set,List.length_map]) fun i h1 h2=> ?_
 rw [zfv] at h1
 rw [z6o m i h1,List.getElem_set,zrh hk m i h1]
 by_cases e:k=i
 ·subst e
  rw [if_pos rfl,if_pos rfl,List.getElem_map]
  rfl
 ·rw [if_neg e,if_neg e,List.getElem_map]
  rfl
theorem ynf {l:List Rqt} (h:zy8 l) {k:Nat} (hk:k<l.length) {m:Int} (hm:m∈z6w (zuy l[k])):ym0 (ztx l k m):=by
 have hin:=yrb (z2s h (List.getElem_mem hk)) hm
 have hra:=zx9 (z2s h (List.getElem_mem hk)) hm
 have hmk:=(zjd (h.ok _ (List.getElem_mem hk))).2.2.2.1
 have ha:=ybn h hk hra
 have each:∀w∈ztx l k m,w.r∈zk4 l k m/\OkW w:=fun w hw=>by
  obtain⟨i,hi,rfl⟩:=List.getElem_of_mem hw
  rw [zfv] at hi
  rw [z6o m i hi]
  refine⟨List.getElem_mem _,?_⟩
  rw [zrh hk m i hi]
  split
  ·rename_i e;subst e
   refine yqd (yev (h.ok _ (List.getElem_mem hk)) hra) (h.li l[k] (List.getElem_mem hk)) ⟨?_,hin.1⟩ ⟨hin.2,?_⟩ ?_
   ·show 0<=max 0 (l[k].mi-20);omega
   ·show min 1439 (l[k].mi+20)<=1439;omega
   ·show min 1439 (l[k].mi+20)-max 0 (l[k].mi-20)<=40;omega
  ·exact z2s h (List.getElem_mem hi)
 refine ymc (fun w hw=>(each w hw).2) ?_ (by rw [zfv];have:=h.len;omega) fun w hw=>⟨ha.ok _ (each w hw).1,ha.few _ (each w hw).1⟩
 have e:yfy (ztx l k m)=zmz (zk4 l k m):=by
  unfold yfy zmz
  refine List.ext_getElem (by rw [List.length_map,List.length_map,zfv,zcg]) fun i h1 h2=> ?_
  rw [List.getElem_map,List.getElem_map,z6o m i (by simpa [zfv] using h1)]
 rw [e]
 exact ha.nd
theorem yir {l:List Rqt} (ls:List Lmt) {k:Nat} (hk:k<l.length) (h2:k<(zk0 ls [] (l.map zuy)).length) (hg:(zk0 ls [] (l.map zuy))[k].gr=true) (i:Nat) (hi:i<=k) (h3:i<(zk0 ls [] (ztx l k (zk0 ls [] (l.map zuy))[k].mi)).length) (h4:i<(zk0 ls [] (l.map zuy)).length):
  (zk0 ls [] (ztx l k (zk0 ls [] (l.map zuy))[k].mi))[i]=(zk0 ls [] (l.map zuy))[i]:=by
 have hk2:k<(l.map zuy).length:=by rw [List.length_map];exact hk
 have hnm:=(yeb ls [] (l.map zuy) k hk2 h2).1
 have e:(zk0 ls [] (l.map zuy))[k]=⟨(l.map zuy)[k].r.nm,(zk0 ls [] (l.map zuy))[k].mi,true⟩:=by
  rw [<-hnm,<-hg]
 have:=ygs ls [] (l.map zuy) k hk2 _ h2 e i hi (by rw [zhk,List.length_set,List.length_map];rw [zhk,List.length_map] at h4;exact h4) h4
 rw [<-this]
 congr 1
 rw [yne hk]
theorem ymq {a:List Rqt} (hu:(zmz a).Nodup) {q o:Rqt} (ho:o∈a) (hc:o.ca=q.ca) (hn:o.nm=q.nm):twF a q=some o:=by
 obtain⟨x,hx⟩:=Option.isSome_iff_exists.1 (yuf ho hc hn)
 have hm:=ymp hx
 rw [hx,yva hu hm.1 ho (hm.2.2.trans hn.symm)]
theorem yp2 {l:List Rqt} (hu:(zmz l).Nodup) {k:Nat} (hk:k<l.length) (m:Int) (i:Nat) (hi:i<l.length):twF (zk4 l k m) l[i]=some ((zk4 l k m)[i]'(by rw [zcg];exact hi)):=by
 refine ymq (by rw [yel hk];exact hu) (List.getElem_mem _) ?_ ?_
 all_goals
  rw [zrh hk m i hi]
  split
  ·rename_i e;subst e;rfl
  ·rfl
theorem ys8 {l:List Rqt} (hu:(zmz l).Nodup) {k:Nat} (hk:k<l.length) (m:Int) (i:Nat) (hi:i<l.length):twF l ((zk4 l k m)[i]'(by rw [zcg];exact hi))=some l[i]:=by
 refine ymq hu (List.getElem_mem _) ?_ ?_
 all_goals
  rw [zrh hk m i hi]
  split
  ·rename_i e;subst e;rfl
  ·rfl
theorem yth {f:Rqt->List Lnt} {l:List Rqt} {k:Nat} (hk:k<l.length) (h:∀(i:Nat) (hi:i<l.length),k≠i->f l[i]=[]):l.flatMap f=f l[k]:=by
 have hA:(l.take k).flatMap f=[]:=List.flatMap_eq_nil_iff.2 fun q hq=>by
  obtain⟨i,hi,rfl⟩:=List.getElem_of_mem hq
  rw [List.length_take] at hi
  rw [List.getElem_take,h i (by omega) (by omega)]
 have hB:(l.drop (k+1)).flatMap f=[]:=List.flatMap_eq_nil_iff.2 fun q hq=>by
  obtain⟨i,hi,rfl⟩:=List.getElem_of_mem hq
  rw [List.length_drop] at hi
  rw [List.getElem_drop,h (k+1+i) (by omega) (by omega)]
 conv=>lhs;rw [<-List.take_append_drop k l,List.drop_eq_getElem_cons hk]
 rw [List.flatMap_append,List.flatMap_cons,hA,hB,List.nil_append,List.append_nil]
theorem yb3 {l:List Rqt} (hu:(zmz l).Nodup) {k:Nat} (hk:k<l.length) (m:Int):z3r l (zk4 l k m)=if l[k].mi=m then [] else [⟨[67],l[k]⟩,⟨[82],ycw l[k] m⟩]:=by
 have h1:l.flatMap (dL (zk4 l k m))=[]:=List.flatMap_eq_nil_iff.2 fun q hq=>by
  obtain⟨i,hi,rfl⟩:=List.getElem_of_mem hq
  unfold dL
  rw [yp2 hu hk m i hi]
 have h3:(zk4 l k m).flatMap (nL l)=[]:=List.flatMap_eq_nil_iff.2 fun q hq=>by
  obtain⟨i,hi,rfl⟩:=List.getElem_of_mem hq
  rw [zcg] at hi
  unfold nL
  rw [ys8 hu hk m i hi]
 have hc:∀(i:Nat) (hi:i<l.length),cL (zk4 l k m) l[i]=if k=i/\¬l[k].mi=m then [⟨[67],l[k]⟩,⟨[82],ycw l[k] m⟩] else []:=fun i hi=>by
  unfold cL
  rw [yp2 hu hk m i hi]
  dsimp only
  rw [zrh hk m i hi]
  by_cases e:k=i
  ·subst e
   rw [if_pos rfl]
   by_cases e2:l[k].mi=m
   ·rw [if_pos (by rw [<-e2];rfl),if_neg (fun h=>h.2 e2)]
   ·rw [if_neg (fun h=>e2 (by rw [<-h];rfl)),if_pos ⟨rfl,e2⟩]
  ·rw [if_neg e,if_pos rfl,if_neg (fun h=>e h.1)]
 have h2:l.flatMap (cL (zk4 l k m))=if l[k].mi=m then [] else [⟨[67],l[k]⟩,⟨[82],ycw l[k] m⟩]:=by
  rw [yth hk fun i hi hne=>by rw [hc i hi,if_neg (fun h=>hne h.1)],hc k hk]
  by_cases e:l[k].mi=m
  ·rw [if_neg (fun h=>h.2 e),if_pos e]
  ·rw [if_pos ⟨rfl,e⟩,if_neg e]
 unfold z3r
 rw [h1,h2,h3,List.nil_append,List.append_nil]
abbrev twH:List UInt8:=[104,101,114,101]
abbrev twS:List UInt8:=[83,50,48,51,48]
abbrev yi5 (x:Rqt):Lnt:=⟨[78],x⟩
def agA (l:List Rqt):Mst:=⟨REQ,twH,twS,5,l.map yi5⟩
def agB (l a:List Rqt):Mst:=⟨REQ,twH,twS,6,z3r l a⟩
theorem ybo (d:Int) (h:d=5\/d=6\/d=9):zz1 twH twS d=0:=by
 rcases h with rfl|rfl|rfl<;>decide+kernel
theorem ynd {l:List Rqt} (hu:(zmz l).Nodup) {k:Nat} (hk:k<l.length) (m:Int):∃L:List Ent,zu0 6 (l.map fun x=>⟨x,false,5⟩) (z3r l (zk4 l k m))=(L,0)/\L.map (·.rq)=zk4 l k m:=by
 rw [yb3 hu hk]
 have hid:(l.map fun x=>(⟨x,false,5⟩:Ent)).map (·.rq)=l:=by rw [List.map_map];exact List.map_id' l
 by_cases e:l[k].mi=m
 ·rw [if_pos e]
  refine⟨_,rfl,?_⟩
  rw [hid,z6n hk,<-e]
  exact(List.set_getElem_self hk).symm
 ·rw [if_neg e]
  have hsp:(l.map fun x=>(⟨x,false,5⟩:Ent))=(l.take k).map (fun x=>⟨x,false,5⟩)++⟨l[k],false,5⟩::(l.drop (k+1)).map fun x=>⟨x,false,5⟩:=by
   conv=>lhs;rw [<-List.take_append_drop k l,List.drop_eq_getElem_cons hk]
   rw [List.map_append,List.map_cons]
  have hpl:plc l[k].nm (l.map fun x=>(⟨x,false,5⟩:Ent))=some k:=by
   rw [hsp,yle (s:=l[k].nm) (e:=⟨l[k],false,5⟩) rfl]
   ·rw [List.length_map,List.length_take,Nat.min_eq_left (by omega)]
   ·intro hm
    unfold yop at hm
    rw [List.map_map] at hm
    obtain⟨x,hx,hn⟩:=List.mem_map.1 hm
    obtain⟨i,hi,rfl⟩:=List.getElem_of_mem hx
    rw [List.length_take] at hi
    rw [List.getElem_take] at hn
    have:=ytq hu (show i<l.length by omega) hk hn
    omega
  have hpl2:plc (ycw l[k] m).nm (l.map fun x=>(⟨x,false,5⟩:Ent))=some k:=hpl
  have hgk:(l.map fun x=>(⟨x,false,5⟩:Ent))[k]? =some ⟨l[k],false,5⟩:=by
   rw [List.getElem?_map,List.getElem?_eq_getElem hk]
   rfl
  refine⟨(l.map fun x=>(⟨x,false,5⟩:Ent)).set k ⟨ycw l[k] m,false,6⟩,?_,?_⟩
  ·rw [z7l (l':=l.map fun x=>⟨x,false,5⟩),z7l (l':=(l.map fun x=>(⟨x,false,5⟩:Ent)).set k ⟨ycw l[k] m,false,6⟩)]
   ·rfl
   ·simp only [zm7,hpl2]
    rw [if_neg (by decide),if_pos trivial]
   ·simp only [zja,hpl2,hgk]
    rw [if_pos trivial]
    rfl
   ·simp only [zm7,hpl,hgk]
    rw [if_neg (by decide),if_neg (by decide),if_pos (by simp)]
   ·simp only [zja,hpl]
    rw [if_neg (by decide),if_neg (by decide)]
  ·rw [List.map_set,hid,z6n hk]
theorem yqv {l:List Rqt} (h:zy8 l) {k:Nat} (hk:k<l.length) {m:Int} (hm:0<=m/\m<=1439):∃L:List Ent,ym8 [agA l,agB l (zk4 l k m)]=(L,0,0)/\L.map (·.rq)=zk4 l k m:=by
 obtain⟨L,h1,h2⟩:=ynd h.nd hk m
 refine⟨L,?_,h2⟩
 have ha:=ybn h hk hm
 have hlen:=h.len
 have hl:(z3r l (zk4 l k m)).length<=2:=by
  rw [yb3 h.nd hk]
  split<;>simp
 have m1:ztk (agA l)=0:=z0a.2 ⟨by show ykr REQ=true;decide,ybo 5 (.inl rfl),by show (l.map yi5).length<=64;rw [List.length_map];omega,by show (zkt REQ none 0 (l.map yi5)).2=0;rw [yq7 h.ok]⟩
 have m2:ztk (agB l (zk4 l k m))=0:=z0a.2 ⟨by show ykr REQ=true;decide,ybo 6 (.inr (.inl rfl)),by show (z3r l (zk4 l k m)).length<=64;omega,by show (zkt REQ none 0 (z3r l (zk4 l k m))).2=0;rw [yq6 h.ok ha.ok]⟩
 have e1:z98 (agA l) (agA l) (agA l)=0:=by
  rw [yks,if_pos m1,if_pos (show (agA l).ki=REQ from rfl),if_pos ⟨rfl,rfl⟩,if_neg (Int.lt_irrefl _)]
 have e2:z98 (agA l) (agA l) (agB l (zk4 l k m))=0:=by
  rw [yks,if_pos m2,if_pos (show (agB l (zk4 l k m)).ki=REQ from rfl),if_pos ⟨rfl,rfl⟩,if_neg (show ¬(agB l (zk4 l k m)).da<(agA l).da from (by decide:¬(6:Int)<5))]
 have g1:zu0 (agA l).da [] (agA l).ls=(l.map fun x=>⟨x,false,5⟩,0):=ykm 5 l [] (fun _ _ h=>by cases h) h.nd (by simp;omega)
 have g2:zu0 (agB l (zk4 l k m)).da (l.map fun x=>⟨x,false,5⟩) (agB l (zk4 l k m)).ls=(L,0):=h1
 show yga (agA l) (agA l) 0 [] [agA l,agB l (zk4 l k m)]=_
 rw [yga,if_pos e1,g1,if_pos rfl,yga,if_pos e2,g2,if_pos rfl,yga]
def zyz (l:List Rqt):List Rst:=l.map fun q=>⟨q.nm,true,q.mi⟩
theorem yj7:∀(l:List Rqt) (seen:List (List UInt8)),(zmz l).Nodup->(∀s∈zmz l,s∉seen)->(∀x∈l,zgr x=0)->zwl seen (zyz l)=0/\cbG l (zyz l)=0/\ybi l (zyz l)=l.map fun q=>⟨[75],q⟩
 | [],_,_,_,_=>⟨rfl,rfl,rfl⟩
 | x::r,seen,hu,hs,hc=>by
  have e:zmz (x::r)=x.nm::zmz r:=rfl
  rw [e,List.nodup_cons] at hu
  rw [e] at hs
  have hx:=hc x (List.mem_cons_self ..)
  have hn:nmE x.nm=0:=by
   unfold zgr at hx
   rw [za5] at hx
   exact hx _ (List.mem_cons_self ..)
  have hz:yt1 seen ⟨x.nm,true,x.mi⟩=0:=by
   unfold yt1
   rw [za5]
   simp only [List.mem_cons,List.not_mem_nil,or_false,forall_eq_or_imp,forall_eq]
   exact⟨hn,zfe.2 (zjd hx).2.2.2.1,if_neg (hs _ (List.mem_cons_self ..))⟩
  obtain⟨h1,h2,h3⟩:=yj7 r (seen++[x.nm]) hu.2 (fun s hm hm2=>by
   rcases List.mem_append.1 hm2 with h|h
   ·exact hs s (List.mem_cons_of_mem _ hm) h
   ·rw [List.mem_singleton] at h
    subst h
    exact hu.1 hm) fun y hy=>hc y (List.mem_cons_of_mem _ hy)
  refine⟨?_,?_,?_⟩
  ·show zwl seen (⟨x.nm,true,x.mi⟩::zyz r)=0
   rw [zwl,if_pos hz]
   exact h1
  ·show cbG (x::r) (⟨x.nm,true,x.mi⟩::zyz r)=0
   rw [cbG,if_pos rfl]
   exact h2
  ·show z3w x ⟨x.nm,true,x.mi⟩::ybi r (zyz r)=_
   rw [h3]
   simp [z3w]
theorem yti {l:List Rqt} (h:zy8 l):zap [zz1 twH twS 9,z4e l (zyz l)]=0/\ybi l (zyz l)=l.map fun q=>⟨[75],q⟩:=by
 obtain⟨h1,h2,h3⟩:=yj7 l [] h.nd (fun _ _=>List.not_mem_nil) h.ok
 have h4:z49 (zyz l)=0:=by
  unfold z49
  rw [if_neg (by unfold zyz;rw [List.length_map];have:=h.len;omega),h1]
 have h5:ynr l (zyz l)=0:=by
  unfold ynr
  rw [za5]
  simp only [List.mem_cons,List.not_mem_nil,or_false,forall_eq_or_imp,forall_eq]
  exact⟨h.chk,h4,if_pos (by unfold zyz;rw [List.length_map])⟩
 refine⟨?_,h3⟩
 rw [za5]
 simp only [List.mem_cons,List.not_mem_nil,or_false,forall_eq_or_imp,forall_eq]
 refine⟨ybo 9 (.inr (.inr rfl)),?_⟩
 unfold z4e
 rw [if_pos h5,h2]
end Go.Proofs.YtkgcnknhkobmjaaGreatDoor.Co
