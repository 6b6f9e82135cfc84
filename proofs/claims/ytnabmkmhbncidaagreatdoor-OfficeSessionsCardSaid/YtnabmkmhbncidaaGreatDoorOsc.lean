/-
  OfficeSessions returns true, for every argument: the law, and the last part of what it leans on.
-/
import Derived.Laws.RangeAny
import Derived.Lib.SplitLaws
import Derived.Test.YtnabmkmhbncidaaGreatDoorAwR
import Derived.Test.YtnabmkmhbncidaaGreatDoorEvX
import Derived.Test.YtnabmkmhbncidaaGreatDoorEvY
import Derived.Test.YtnabmkmhbncidaaGreatDoorRead
import Derived.Test.YtnabmkmhbncidaaGreatDoorSpBase
import Derived.Test.YtnabmkmhbncidaaGreatDoorOsb
namespace Go.Proofs.YtnabmkmhbncidaaGreatDoor.Co
open Go Go.Evl
set_option maxHeartbeats 32000000
set_option maxRecDepth 100000
theorem z8k (l:List Slt):(l.flatMap fun t=>[t.sr,zjm t.mi]).length=l.length*2:=by
 induction l with
 | nil=>rfl
 | cons t r ih=>rw [List.flatMap_cons,List.length_append,ih,List.length_cons,List.length_cons,List.length_cons,List.length_nil];omega
section
variable {E : Oracle} (g : Good E)
include g
theorem yq4 (l:List Evt) (hl:l.length<=1000) (hb:∀e∈l,e.ns.length<=1000000/\e.vs.length<=1000000) (hz:erL l=0) (hnm:NmR (rgL l)) (text:List UInt8) (ht:text.length<=100000) (rest:List (List UInt8)) (hp:parts 32 text=zwu::rest):
  Fc E zft [LE l,S text] (Aqv (zxt 3 2 (A2 (rgL l)) text)):=by
 have hsp:=zpx g text (by omega)
 have hrl:=zjy 32 text
 have hrp:=zn0 g l hl hb
 have ho:=z4l hl hz
 rw [hz] at hrp
 generalize (zeh rg0 0 l).2.1=at0 at hrp
 generalize rgL l=r at *
 rw [hp] at hsp hrl
 rw [List.length_cons] at hrl
 change Fc E n_strings_Split [S text,S [32]] (.d (.list (rest.length+1) (.str zwu::rest.map D.str))) at hsp
 by_cases h3:rest.length=2
 ·obtain⟨b,c,rfl⟩:∃b c,rest=[b,c]:=by
   match rest,h3 with
   | [b,c],_=>exact⟨b,c,rfl⟩
  clear hrl h3
  change Fc E n_strings_Split [S text,S [32]] (.d (.list 3 [.str zwu,.str b,.str c])) at hsp
  unfold zxt
  rw [hp]
  have hib:=zlg g b
  have hic:=zlg g c
  by_cases hb0:b=[]
  ·rw [if_pos (.inr (by simp [hb0]))]
   refine g.fn rfl rfl ?_
   repeat' ((conv=>whnf);first
   | refine Yz ?_
    | (apply zah.of;assumption)
    | (refine zsf.mk ⟨_,rfl,?_⟩)
    | (refine zht.mk ⟨_,rfl,?_⟩)
    | (refine zak.step g.lim ?_)
    | (refine Cmp.tt hb0 ?_)
    | (refine Ret.mk rfl)
    | fail)
  by_cases hb1:zgz b=true
  case neg=>
   have hb1:zgz b=false:=by simpa using hb1
   have hx:(if [zwu,b,c].length≠3\/[]∈[zwu,b,c] then(([],25):List UInt8×Int) else if zfl ([zwu,b,c].drop (3-2))=false then([],25) else zvp (A2 r [zwu,b,c] (zin ([zwu,b,c].drop (3-2)))))=([],25):=by
    rw [if_pos (c:=zfl _=false) (by simp [zfl,(ze4 b).1,hb1])]
    split<;>rfl
   rw [hx]
   unfold z4x at hib
   rw [hb1] at hib
   refine g.fn rfl rfl ?_
   repeat' ((conv=>whnf);first
   | refine Yz ?_
    | (apply zah.of;assumption)
    | (refine zsf.mk ⟨_,rfl,?_⟩)
    | (refine zht.mk ⟨_,rfl,?_⟩)
    | (refine zak.step g.lim ?_)
    | (refine Cmp.ff hb0 ?_)
    | (refine Ret.mk rfl)
    | fail)
  unfold z4x at hib
  rw [hb1] at hib
  by_cases hc0:c=[]
  ·rw [if_pos (.inr (by simp [hc0]))]
   refine g.fn rfl rfl ?_
   repeat' ((conv=>whnf);first
   | refine Yz ?_
    | (apply zah.of;assumption)
    | (refine zsf.mk ⟨_,rfl,?_⟩)
    | (refine zht.mk ⟨_,rfl,?_⟩)
    | (refine zak.step g.lim ?_)
    | (refine Cmp.ff hb0 ?_)
    | (refine Cmp.tt hc0 ?_)
    | (refine zbd.mk ⟨rfl,rfl,rfl,rfl,rfl,rfl,by decide,by decide⟩ ?_)
    | (refine Ret.mk rfl)
    | fail)
  by_cases hc1:zgz c=true
  case neg=>
   have hc1:zgz c=false:=by simpa using hc1
   have hx:(if [zwu,b,c].length≠3\/[]∈[zwu,b,c] then(([],25):List UInt8×Int) else if zfl ([zwu,b,c].drop (3-2))=false then([],25) else zvp (A2 r [zwu,b,c] (zin ([zwu,b,c].drop (3-2)))))=([],25):=by
    rw [if_pos (c:=zfl _=false) (by simp [zfl,(ze4 c).1,hc1])]
    split<;>rfl
   rw [hx]
   unfold z4x at hic
   rw [hc1] at hic
   refine g.fn rfl rfl ?_
   repeat' ((conv=>whnf);first
   | refine Yz ?_
    | (apply zah.of;assumption)
    | (refine zsf.mk ⟨_,rfl,?_⟩)
    | (refine zht.mk ⟨_,rfl,?_⟩)
    | (refine zak.step g.lim ?_)
    | (refine Cmp.ff hb0 ?_)
    | (refine Cmp.ff hc0 ?_)
    | (refine zbd.mk ⟨rfl,rfl,rfl,rfl,rfl,rfl,by decide,by decide⟩ ?_)
    | (refine Ret.mk rfl)
    | fail)
  unfold z4x at hic
  rw [hc1] at hic
  have hx:(if [zwu,b,c].length≠3\/[]∈[zwu,b,c] then(([],25):List UInt8×Int) else if zfl ([zwu,b,c].drop (3-2))=false then([],25) else zvp (A2 r [zwu,b,c] (zin ([zwu,b,c].drop (3-2)))))=zvp (zza r (zna b) (zna c)):=by
   have e1:[zwu,b,c].drop (3-2)=[b,c]:=rfl
   rw [e1,ypz hb1 hc1,if_neg,if_neg]
   ·rfl
   ·simp [zfl,(ze4 b).1,(ze4 c).1,hb1,hc1]
   ·intro h
    rcases h with h|h
    ·exact h rfl
    ·simp only [List.mem_cons,List.not_mem_nil,or_false] at h
     rcases h with h|h|h
     ·exact absurd h (by decide)
     ·exact hb0 h.symm
     ·exact hc0 h.symm
  rw [hx]
  generalize zna b=k at *
  generalize zna c=d at *
  have hcd:=ztv g [k,d] (by simp)
  have has:=yqh g r ho k d
  have hA:zvp (zza r k d)=if zyg [k,d]=0 then(yf6 ((z97 r k d).flatMap fun t=>[t.sr,zjm t.mi]),0) else([],zyg [k,d]):=by
   rw [yrw]
   unfold zza
   generalize zar [rng k 0 99999,rng d 0 99999]=y
   by_cases hy:y=0
   ·rw [if_pos hy,if_neg (fun h=>h hy),z44,yj7]
   ·rw [if_neg hy,if_pos hy,z43 hy]
  rw [hA]
  have hsl:=z62 ho k d
  have hsr:=ybx hnm.sr k d
  have hrg:=z4o ho k d
  have hww:=z7b g ((z97 r k d).flatMap fun t=>[t.sr,zjm t.mi]) (by
   rw [z8k];omega) (fun x hx=>by
   obtain⟨t,ht,hm⟩:=List.mem_flatMap.1 hx
   simp only [List.mem_cons,List.not_mem_nil,or_false] at hm
   rcases hm with rfl|rfl
   ·have:=hsr t ht;omega
   ·have:=zpe 20 t.mi.toNat
    unfold zjm;omega)
  generalize z97 r k d=sl at *
  change Fc E zdb [.d (.list 2 [DI k,DI d])] (I (zyg [k,d])) at hcd
  generalize zyg [k,d]=y at *
  obtain⟨kn,es,rs,cs⟩:=r
  change Fc E zcr [LE l] (.tup [.d (.agg [DI kn,.list es.length (es.flatMap Ent.cells),.list rs.length (rs.flatMap Rmv.cells),.list cs.length (cs.flatMap Cpl.cells)]),I at0,I 0]) at hrp
  change Fc E znu [.d (.agg [DI kn,.list es.length (es.flatMap Ent.cells),.list rs.length (rs.flatMap Rmv.cells),.list cs.length (cs.flatMap Cpl.cells)]),I k,I d] (LS2 sl) at has
  by_cases hzz:y=0
  ·rw [if_pos hzz]
   refine g.fn rfl rfl ?_
   repeat' ((conv=>whnf);first
   | refine Yz ?_
    | (apply zah.of;assumption)
    | (refine zsf.mk ⟨_,rfl,?_⟩)
    | (refine zht.mk ⟨_,rfl,?_⟩)
    | with_reducible (refine zak.step (live:=[0,6,8,39,40,41]) g.lim ?_)
    | (refine Cmp.ff hb0 ?_)
    | (refine Cmp.ff hc0 ?_)
    | (refine Cmp.ff (fun h=>h hzz) ?_)
    | (refine zbd.mk ⟨rfl,rfl,rfl,rfl,rfl,rfl,by decide,by decide⟩ ?_)
    | (refine zbd.mk ⟨rfl,by decide⟩ ?_)
    | fail)
   refine zak.to (zak.up g (fun i=>[(20,.ref ⟨0,20,0⟩ 0 (i*2) (i*2)),(132,LS2 sl),(133,I sl.length),(134,I i)])
    (fun i=>[(⟨0,27,0⟩,.map szM),(⟨0,8,0⟩,.row false zbq 1 2 [DI k,DI d]),(⟨0,14,0⟩,.cells zaf [I kn,.d (.list es.length (es.flatMap Ent.cells)),.d (.list rs.length (rs.flatMap Rmv.cells)),.d (.list cs.length (cs.flatMap Cpl.cells))]),(⟨0,20,0⟩,.row false zab 1 (i*2) (((sl.take i).flatMap fun t=>[t.sr,zjm t.mi]).map D.str))]) sl.length (fun i hi ih=> ?_) 0 (Nat.zero_le _)) rfl rfl
   have hml:(((sl.take i).flatMap fun t=>[t.sr,zjm t.mi]).map D.str).length=i*2*1:=by
    rw [List.length_map,z8k,List.length_take];omega
   have hls:(sl.flatMap Slt.cells).length=sl.length*2:=zag Slt.cells 2 ypk sl
   by_cases hlt:i<sl.length
   ·have ih:=ih hlt
    have hT:=zrq g sl[i].mi (by have:=hrg _ (List.getElem_mem hlt);omega)
    have hwin:win (sl.flatMap Slt.cells) (((i:Nat):Int).toNat*2) 2=sl[i].cells:=by
     rw [Int.toNat_natCast]
     exact zb9 Slt.cells 2 ypk sl i hlt
    have e0:((sl.take (i+1)).flatMap fun t=>[t.sr,zjm t.mi]).map D.str=((sl.take i).flatMap fun t=>[t.sr,zjm t.mi]).map D.str++[.str sl[i].sr,.str (zjm sl[i].mi)]:=by
     rw [List.take_succ_eq_append_getElem hlt,List.flatMap_append,List.map_append]
     rfl
    rw [e0,show (i+1)*2=i*2+2 by omega] at ih
    generalize sl[i]=t at *
    change win _ _ _=[D.str t.sr,DI t.mi] at hwin
    generalize zjm t.mi=tx at *
    clear e0
    repeat' ((conv=>whnf);first
    | refine Yz ?_
     | (rw [hwin])
     | (apply zah.of;assumption)
     | (refine zbd.mk ⟨rfl,rfl,rfl,rfl,rfl,by omega,by dsimp only;omega,by dsimp only;omega⟩ ?_)
     | (refine zak.to ih rfl rfl)
     | fail)
   ·obtain rfl:i=sl.length:=by omega
    rw [List.take_length]
    rw [List.take_length,List.length_map] at hml
    have hww:∀n cs',n=sl.length*2->cs'=((sl.flatMap fun t=>[t.sr,zjm t.mi]).map D.str)->Fc E zgt [.d (.list n cs')] (S (yf6 (sl.flatMap fun t=>[t.sr,zjm t.mi]))):=by
     rintro _ _ rfl rfl
     have:(sl.flatMap fun t=>[t.sr,zjm t.mi]).length=sl.length*2:=by omega
     unfold Ws at hww
     rw [this] at hww
     exact hww
    clear ih
    repeat' ((conv=>whnf);first
    | refine Yz ?_
     | (refine zbd.mk ⟨rfl,by omega⟩ ?_)
     | (rw [if_pos ⟨rfl,rfl⟩])
     | (refine zah.of (hww _ _ rfl rfl) ?_)
     | (refine Ret.mk rfl)
     | fail)
  ·rw [if_neg hzz]
   refine g.fn rfl rfl ?_
   repeat' ((conv=>whnf);first
   | refine Yz ?_
    | (apply zah.of;assumption)
    | (refine zsf.mk ⟨_,rfl,?_⟩)
    | (refine zht.mk ⟨_,rfl,?_⟩)
    | (refine zak.step g.lim ?_)
    | (refine Cmp.ff hb0 ?_)
    | (refine Cmp.ff hc0 ?_)
    | (refine Cmp.tt hzz ?_)
    | (refine zbd.mk ⟨rfl,rfl,rfl,rfl,rfl,rfl,by decide,by decide⟩ ?_)
    | (refine zbd.mk ⟨rfl,by decide⟩ ?_)
    | (refine Ret.mk rfl)
    | fail)
 ·rw [zt8 (by rw [hp,List.length_cons];omega)]
  refine g.fn rfl rfl ?_
  repeat' ((conv=>whnf);first
  | refine Yz ?_
   | (apply zah.of;assumption)
   | (refine zsf.mk ⟨_,rfl,?_⟩)
   | (refine zht.mk ⟨_,rfl,?_⟩)
   | (refine Cmp.tt (by omega) ?_)
   | (refine Ret.mk rfl)
   | fail)
theorem yq5 (l:List Evt) (hl:l.length<=1000) (hb:∀e∈l,e.ns.length<=1000000/\e.vs.length<=1000000) (hz:erL l=0) (hnm:NmR (rgL l)) (text:List UInt8) (ht:text.length<=100000) (rest:List (List UInt8)) (hp:parts 32 text=zfn::rest):
  Fc E zft [LE l,S text] (Aqv (zxt 2 1 (A3 (rgL l)) text)):=by
 have hsp:=zpx g text (by omega)
 have hrl:=zjy 32 text
 have hrp:=zn0 g l hl hb
 have ho:=z4l hl hz
 rw [hz] at hrp
 generalize (zeh rg0 0 l).2.1=at0 at hrp
 generalize rgL l=r at *
 rw [hp] at hsp hrl
 rw [List.length_cons] at hrl
 change Fc E n_strings_Split [S text,S [32]] (.d (.list (rest.length+1) (.str zfn::rest.map D.str))) at hsp
 by_cases h3:rest.length=1
 ·obtain⟨b,rfl⟩:∃b,rest=[b]:=by
   match rest,h3 with
   | [b],_=>exact⟨b,rfl⟩
  clear hrl h3
  change Fc E n_strings_Split [S text,S [32]] (.d (.list 2 [.str zfn,.str b])) at hsp
  unfold zxt
  rw [hp]
  have hib:=zlg g b
  by_cases hb0:b=[]
  ·rw [if_pos (.inr (by simp [hb0]))]
   refine g.fn rfl rfl ?_
   repeat' ((conv=>whnf);first
   | refine Yz ?_
    | (apply zah.of;assumption)
    | (refine zsf.mk ⟨_,rfl,?_⟩)
    | (refine zht.mk ⟨_,rfl,?_⟩)
    | (refine zak.step g.lim ?_)
    | (refine Cmp.tt hb0 ?_)
    | (refine Ret.mk rfl)
    | fail)
  by_cases hb1:zgz b=true
  case neg=>
   have hb1:zgz b=false:=by simpa using hb1
   have hx:(if [zfn,b].length≠2\/[]∈[zfn,b] then(([],25):List UInt8×Int) else if zfl ([zfn,b].drop (2-1))=false then([],25) else zvp (A3 r [zfn,b] (zin ([zfn,b].drop (2-1)))))=([],25):=by
    rw [if_pos (c:=zfl _=false) (by simp [zfl,(ze4 b).1,hb1])]
    split<;>rfl
   rw [hx]
   unfold z4x at hib
   rw [hb1] at hib
   refine g.fn rfl rfl ?_
   repeat' ((conv=>whnf);first
   | refine Yz ?_
    | (apply zah.of;assumption)
    | (refine zsf.mk ⟨_,rfl,?_⟩)
    | (refine zht.mk ⟨_,rfl,?_⟩)
    | (refine zak.step g.lim ?_)
    | (refine Cmp.ff hb0 ?_)
    | (refine Ret.mk rfl)
    | fail)
  unfold z4x at hib
  rw [hb1] at hib
  have hx:(if [zfn,b].length≠2\/[]∈[zfn,b] then(([],25):List UInt8×Int) else if zfl ([zfn,b].drop (2-1))=false then([],25) else zvp (A3 r [zfn,b] (zin ([zfn,b].drop (2-1)))))=zvp (zy9 r (zna b)):=by
   have e1:[zfn,b].drop (2-1)=[b]:=rfl
   rw [e1,yr0 hb1,if_neg,if_neg]
   ·rfl
   ·simp [zfl,(ze4 b).1,hb1]
   ·intro h
    rcases h with h|h
    ·exact h rfl
    ·simp only [List.mem_cons,List.not_mem_nil,or_false] at h
     rcases h with h|h
     ·exact absurd h (by decide)
     ·exact hb0 h.symm
  rw [hx]
  generalize zna b=k at *
  have hcd:=ztv g [k] (by simp)
  have hco:=yfd g r ho k
  have hA:zvp (zy9 r k)=if zyg [k]=0 then(yf6 (ygl r k),0) else([],zyg [k]):=by
   rw [yrv]
   unfold zy9
   generalize rng k 0 99999=y
   by_cases hy:y=0
   ·rw [if_pos hy,if_neg (fun h=>h hy),z44]
   ·rw [if_neg hy,if_pos hy,z43 hy]
  rw [hA]
  obtain⟨n1,n2⟩:=zyr ho hnm (fun x=>zxa r x k)
  have hww:=z7b g (ygl r k) n1 n2
  generalize ygl r k=sl at *
  change Fc E zdb [.d (.list 1 [DI k])] (I (zyg [k])) at hcd
  generalize zyg [k]=y at *
  obtain⟨kn,es,rs,cs⟩:=r
  change Fc E zcr [LE l] (.tup [.d (.agg [DI kn,.list es.length (es.flatMap Ent.cells),.list rs.length (rs.flatMap Rmv.cells),.list cs.length (cs.flatMap Cpl.cells)]),I at0,I 0]) at hrp
  change Fc E ziw [.d (.agg [DI kn,.list es.length (es.flatMap Ent.cells),.list rs.length (rs.flatMap Rmv.cells),.list cs.length (cs.flatMap Cpl.cells)]),I k] (Ws sl) at hco
  by_cases hzz:y=0
  ·rw [if_pos hzz]
   refine g.fn rfl rfl ?_
   repeat' ((conv=>whnf);first
   | refine Yz ?_
    | (apply zah.of;assumption)
    | (refine zsf.mk ⟨_,rfl,?_⟩)
    | (refine zht.mk ⟨_,rfl,?_⟩)
    | (refine zak.step g.lim ?_)
    | (refine Cmp.ff hb0 ?_)
    | (refine Cmp.ff (fun h=>h hzz) ?_)
    | (refine zbd.mk ⟨rfl,rfl,rfl,rfl,rfl,rfl,by decide,by decide⟩ ?_)
    | (refine zbd.mk ⟨rfl,by decide⟩ ?_)
    | (refine Ret.mk rfl)
    | fail)
  ·rw [if_neg hzz]
   refine g.fn rfl rfl ?_
   repeat' ((conv=>whnf);first
   | refine Yz ?_
    | (apply zah.of;assumption)
    | (refine zsf.mk ⟨_,rfl,?_⟩)
    | (refine zht.mk ⟨_,rfl,?_⟩)
    | (refine zak.step g.lim ?_)
    | (refine Cmp.ff hb0 ?_)
    | (refine Cmp.tt hzz ?_)
    | (refine zbd.mk ⟨rfl,rfl,rfl,rfl,rfl,rfl,by decide,by decide⟩ ?_)
    | (refine zbd.mk ⟨rfl,by decide⟩ ?_)
    | (refine Ret.mk rfl)
    | fail)
 ·rw [zt8 (by rw [hp,List.length_cons];omega)]
  refine g.fn rfl rfl ?_
  repeat' ((conv=>whnf);first
  | refine Yz ?_
   | (apply zah.of;assumption)
   | (refine zsf.mk ⟨_,rfl,?_⟩)
   | (refine zht.mk ⟨_,rfl,?_⟩)
   | (refine Cmp.tt (by omega) ?_)
   | (refine Ret.mk rfl)
   | fail)
theorem yq6 (l:List Evt) (hl:l.length<=1000) (hb:∀e∈l,e.ns.length<=1000000/\e.vs.length<=1000000) (hz:erL l=0) (hnm:NmR (rgL l)) (text:List UInt8) (ht:text.length<=100000) (rest:List (List UInt8)) (hp:parts 32 text=zl1::rest):
  Fc E zft [LE l,S text] (Aqv (zxt 2 0 (A4 (rgL l)) text)):=by
 have hsp:=zpx g text (by omega)
 have hrl:=zjy 32 text
 have hrp:=zn0 g l hl hb
 have ho:=z4l hl hz
 have hes:=ho.es
 rw [hz] at hrp
 generalize (zeh rg0 0 l).2.1=at0 at hrp
 generalize rgL l=r at *
 rw [hp] at hsp hrl
 rw [List.length_cons] at hrl
 change Fc E n_strings_Split [S text,S [32]] (.d (.list (rest.length+1) (.str zl1::rest.map D.str))) at hsp
 by_cases h3:rest.length=1
 ·obtain⟨b,rfl⟩:∃b,rest=[b]:=by
   match rest,h3 with
   | [b],_=>exact⟨b,rfl⟩
  clear hrl h3
  change Fc E n_strings_Split [S text,S [32]] (.d (.list 2 [.str zl1,.str b])) at hsp
  unfold zxt
  rw [hp]
  by_cases hb0:b=[]
  ·rw [if_pos (.inr (by simp [hb0]))]
   refine g.fn rfl rfl ?_
   repeat' ((conv=>whnf);first
   | refine Yz ?_
    | (apply zah.of;assumption)
    | (refine zsf.mk ⟨_,rfl,?_⟩)
    | (refine zht.mk ⟨_,rfl,?_⟩)
    | (refine zak.step g.lim ?_)
    | (refine Cmp.tt hb0 ?_)
    | (refine Ret.mk rfl)
    | fail)
  have hx:(if [zl1,b].length≠2\/[]∈[zl1,b] then(([],25):List UInt8×Int) else if zfl ([zl1,b].drop (2-0))=false then([],25) else zvp (A4 r [zl1,b] (zin ([zl1,b].drop (2-0)))))=zvp (zzb r b):=by
   rw [if_neg,if_neg]
   ·rfl
   ·simp [zfl]
   ·intro h
    rcases h with h|h
    ·exact h rfl
    ·simp only [List.mem_cons,List.not_mem_nil,or_false] at h
     rcases h with h|h
     ·exact absurd h (by decide)
     ·exact hb0 h.symm
  rw [hx]
  have hn:=z6s g b
  have hw:=yj4 g (!zbi b) 8
  have hea:=zm7 g r b (by omega)
  have hw2:=yj4 g (decide (zls r.es b<0)) 10
  have hf:=yep g (if !zbi b then 8 else 0) (if decide (zls r.es b<0)=true then 10 else 0)
  have hco:=yio g r ho b
  have hA:zvp (zzb r b)=if zar [if !zbi b then 8 else 0,if decide (zls r.es b<0)=true then 10 else 0]=0 then(yf6 (yi2 r b),0) else([],zar [if !zbi b then 8 else 0,if decide (zls r.es b<0)=true then 10 else 0]):=by
   unfold zzb
   generalize (if !zbi b then(8:Int) else 0)=y
   by_cases hy:y=0
   ·rw [if_neg (fun h=>h hy)]
    by_cases hi:zls r.es b<0
    ·simp [hi,hy,zar,zvp]
    ·rw [if_neg hi,z44]
     simp [hi,hy,zar]
   ·rw [if_pos hy,z43 hy]
    simp [zar,hy]
  rw [hA]
  obtain⟨n1,n2⟩:=zyr ho hnm (fun x=>yec r x b)
  have hww:=z7b g (yi2 r b) n1 n2
  have hcm:∀ {a c:Prop},(zls r.es b<0->a)->(¬zls r.es b<0->c)->Cmp (zls r.es b<0) a c:=fun h1 h2=>⟨h1,h2⟩
  generalize yi2 r b=sl at *
  generalize hei:zls r.es b=ei at *
  generalize (if !zbi b then(8:Int) else 0)=x at *
  generalize hxx:(if decide (ei<0)=true then(10:Int) else 0)=x2 at *
  generalize zar [x,x2]=y at *
  obtain⟨kn,es,rs,cs⟩:=r
  change Fc E zcr [LE l] (.tup [.d (.agg [DI kn,.list es.length (es.flatMap Ent.cells),.list rs.length (rs.flatMap Rmv.cells),.list cs.length (cs.flatMap Cpl.cells)]),I at0,I 0]) at hrp
  change Fc E zjv [.d (.agg [DI kn,.list es.length (es.flatMap Ent.cells),.list rs.length (rs.flatMap Rmv.cells),.list cs.length (cs.flatMap Cpl.cells)]),S b] (Ws sl) at hco
  change Fc E zc3 [.d (.agg [DI kn,.list es.length (es.flatMap Ent.cells),.list rs.length (rs.flatMap Rmv.cells),.list cs.length (cs.flatMap Cpl.cells)]),S b] (I ei) at hea
  clear hcm hA hei hx
  by_cases hneg:ei<0
  ·rw [decide_eq_true hneg] at hw2 hxx
   rw [if_pos rfl] at hxx
   subst hxx
   by_cases hzz:y=0
   ·rw [if_pos hzz]
    refine g.fn rfl rfl ?_
    repeat' ((conv=>whnf);first
    | refine Yz ?_
     | (apply zah.of;assumption)
     | (refine zsf.mk ⟨_,rfl,?_⟩)
     | (refine zht.mk ⟨_,rfl,?_⟩)
     | (refine zak.step g.lim ?_)
     | (refine Cmp.ff hb0 ?_)
     | (refine Cmp.ff (fun h=>h hzz) ?_)
     | (refine zbd.mk ⟨rfl,by decide⟩ ?_)
     | (refine Ret.mk rfl)
     | fail)
   ·rw [if_neg hzz]
    refine g.fn rfl rfl ?_
    repeat' ((conv=>whnf);first
    | refine Yz ?_
     | (apply zah.of;assumption)
     | (refine zsf.mk ⟨_,rfl,?_⟩)
     | (refine zht.mk ⟨_,rfl,?_⟩)
     | (refine zak.step g.lim ?_)
     | (refine Cmp.ff hb0 ?_)
     | (refine Cmp.tt hzz ?_)
     | (refine zbd.mk ⟨rfl,by decide⟩ ?_)
     | (refine Ret.mk rfl)
     | fail)
  ·rw [decide_eq_false hneg] at hw2 hxx
   rw [if_neg (by decide)] at hxx
   subst hxx
   by_cases hzz:y=0
   ·rw [if_pos hzz]
    refine g.fn rfl rfl ?_
    repeat' ((conv=>whnf);first
    | refine Yz ?_
     | (apply zah.of;assumption)
     | (refine zsf.mk ⟨_,rfl,?_⟩)
     | (refine zht.mk ⟨_,rfl,?_⟩)
     | (refine zak.step g.lim ?_)
     | (refine Cmp.ff hb0 ?_)
     | (refine Cmp.ff (fun h=>h hzz) ?_)
     | (refine zbd.mk ⟨rfl,by decide⟩ ?_)
     | (refine Ret.mk rfl)
     | fail)
   ·rw [if_neg hzz]
    refine g.fn rfl rfl ?_
    repeat' ((conv=>whnf);first
    | refine Yz ?_
     | (apply zah.of;assumption)
     | (refine zsf.mk ⟨_,rfl,?_⟩)
     | (refine zht.mk ⟨_,rfl,?_⟩)
     | (refine zak.step g.lim ?_)
     | (refine Cmp.ff hb0 ?_)
     | (refine Cmp.tt hzz ?_)
     | (refine zbd.mk ⟨rfl,by decide⟩ ?_)
     | (refine Ret.mk rfl)
     | fail)
 ·rw [zt8 (by rw [hp,List.length_cons];omega)]
  refine g.fn rfl rfl ?_
  repeat' ((conv=>whnf);first
  | refine Yz ?_
   | (apply zah.of;assumption)
   | (refine zsf.mk ⟨_,rfl,?_⟩)
   | (refine zht.mk ⟨_,rfl,?_⟩)
   | (refine Cmp.tt (by omega) ?_)
   | (refine Ret.mk rfl)
   | fail)
theorem yq7 (l:List Evt) (hl:l.length<=1000) (hb:∀e∈l,e.ns.length<=1000000/\e.vs.length<=1000000) (hz:erL l=0) (hnm:NmR (rgL l)) (text:List UInt8) (ht:text.length<=100000) (rest:List (List UInt8)) (hp:parts 32 text=zse::rest):
  Fc E zft [LE l,S text] (Aqv (zxt 1 0 (A5 (rgL l)) text)):=by
 have hsp:=zpx g text (by omega)
 have hrl:=zjy 32 text
 have hrp:=zn0 g l hl hb
 have ho:=z4l hl hz
 have hcs:=ho.cs
 rw [hz] at hrp
 generalize (zeh rg0 0 l).2.1=at0 at hrp
 generalize rgL l=r at *
 rw [hp] at hsp hrl
 rw [List.length_cons] at hrl
 change Fc E n_strings_Split [S text,S [32]] (.d (.list (rest.length+1) (.str zse::rest.map D.str))) at hsp
 by_cases h3:rest.length=0
 ·obtain rfl:=List.length_eq_zero_iff.1 h3
  clear hrl h3
  change Fc E n_strings_Split [S text,S [32]] (.d (.list 1 [.str zse])) at hsp
  unfold zxt
  rw [hp]
  have hx:(if [zse].length≠1\/[]∈[zse] then(([],25):List UInt8×Int) else if zfl ([zse].drop (1-0))=false then([],25) else zvp (A5 r [zse] (zin ([zse].drop (1-0)))))=(yf6 ((ym4 r).map Cpl.nm),0):=by
   rw [if_neg (by decide),if_neg (by decide)]
   exact z44 _
  rw [hx]
  have hco:=ybp g r hcs
  have ⟨n1,n2⟩:=ypm ho hnm [] []
  have hww:=z7b g ((ym4 r).map Cpl.nm) n1 n2
  clear n1 n2 hx
  generalize (ym4 r).map Cpl.nm=sl at *
  obtain⟨kn,es,rs,cs⟩:=r
  change Fc E zcr [LE l] (.tup [.d (.agg [DI kn,.list es.length (es.flatMap Ent.cells),.list rs.length (rs.flatMap Rmv.cells),.list cs.length (cs.flatMap Cpl.cells)]),I at0,I 0]) at hrp
  change Fc E zh0 [.d (.agg [DI kn,.list es.length (es.flatMap Ent.cells),.list rs.length (rs.flatMap Rmv.cells),.list cs.length (cs.flatMap Cpl.cells)])] (Ws sl) at hco
  refine g.fn rfl rfl ?_
  repeat' ((conv=>whnf);first
  | refine Yz ?_
   | (apply zah.of;assumption)
   | (refine zsf.mk ⟨_,rfl,?_⟩)
   | (refine zht.mk ⟨_,rfl,?_⟩)
   | (refine zak.step g.lim ?_)
   | (refine zbd.mk ⟨rfl,by decide⟩ ?_)
   | (refine Ret.mk rfl)
   | fail)
 ·rw [zt8 (by rw [hp,List.length_cons];omega)]
  refine g.fn rfl rfl ?_
  repeat' ((conv=>whnf);first
  | refine Yz ?_
   | (apply zah.of;assumption)
   | (refine zsf.mk ⟨_,rfl,?_⟩)
   | (refine zht.mk ⟨_,rfl,?_⟩)
   | (refine Cmp.tt (by omega) ?_)
   | (refine Ret.mk rfl)
   | fail)
theorem yo9 (l:List Evt) (hl:l.length<=1000) (hb:∀e∈l,e.ns.length<=1000000/\e.vs.length<=1000000) (hz:erL l=0) (hnm:NmR (rgL l)) (text:List UInt8) (ht:text.length<=100000):
  Fc E zft [LE l,S text] (Aqv (ypr (rgL l) text)):=by
 obtain⟨k,rest,hp⟩:∃k rest,parts 32 text=k::rest:=by
  cases h:parts 32 text with
  | nil=>exact absurd h (znz 32 text)
  | cons k r=>exact⟨k,r,rfl⟩
 have hk:hdW text=k:=by unfold hdW;rw [hp];rfl
 unfold ypr
 rw [hk]
 by_cases h1:k=zkl
 ·subst h1;rw [if_pos rfl];exact yq3 g l hl hb hz text ht rest hp
 rw [if_neg h1]
 by_cases h2:k=zwu
 ·subst h2;rw [if_pos rfl];exact yq4 g l hl hb hz hnm text ht rest hp
 rw [if_neg h2]
 by_cases h3:k=zfn
 ·subst h3;rw [if_pos rfl];exact yq5 g l hl hb hz hnm text ht rest hp
 rw [if_neg h3]
 by_cases h4:k=zl1
 ·subst h4;rw [if_pos rfl];exact yq6 g l hl hb hz hnm text ht rest hp
 rw [if_neg h4]
 by_cases h5:k=zse
 ·subst h5;rw [if_pos rfl];exact yq7 g l hl hb hz hnm text ht rest hp
 rw [if_neg h5]
 have hsp:=zpx g text (by omega)
 rw [hp] at hsp
 change Fc E n_strings_Split [S text,S [32]] (.d (.list (rest.length+1) (.str k::rest.map D.str))) at hsp
 have hfi:=yo2 ⟨h1,h2,h3,h4,h5⟩
 refine g.fn rfl rfl ?_
 repeat' ((conv=>whnf);first
 | refine Yz ?_
  | (apply zah.of;assumption)
  | (refine zsf.mk ⟨_,rfl,?_⟩)
  | (refine zht.mk ⟨_,hfi,?_⟩)
  | (refine Ret.mk rfl)
  | fail)
end
section
variable {E : Oracle} (g : Good E)
include g
theorem yj1 (ev:List Evt) (r:Rgs) (text:List UInt8) (hl:text.length<=4096) (hne:text≠[]) (nm:List UInt8) (hnm:hdW text=nm) (W Iq:Int) (f:Nat) (a:List UInt8×Int)
  (hf:zpf (.str nm) qsM=some (some (.agg [I W,I Iq,.fn f [] []])))
  (hu:Ui E zbl [.ptr ⟨0,0,0⟩ 0 0,.agg [I W,I Iq,.fn f [] []],S text] (mR zaa ev r) (Aqv a) (mR zaa ev r)):
  Ui E zal [.ptr ⟨0,0,0⟩ 0 0,S text] (mR zaa ev r) (Aqv a) (mR zaa ev r):=by
 refine⟨?_⟩
 obtain⟨q,b,hcut⟩:=yi5 g text (by omega)
 rw [hnm] at hcut
 obtain⟨a1,a2⟩:=a
 have hpos:0<text.length:=List.length_pos_iff.2 hne
 refine In.enter (f:=zal) g.lim rfl rfl ?_
 repeat' ((conv=>whnf);first
 | refine Yz ?_
  | (apply zah.of;assumption)
  | (refine zah.of (zgf g _ _) ?_)
  | (refine zah.of (zec g _ _) ?_)
  | (refine zb8.questions g rfl ?_)
  | (refine Cmp.ff hne ?_)
  | (refine zht.mk ⟨_,hf,?_⟩)
  | (refine zqp.ofI (r':=Aqv (a1,a2)) isR rfl rfl rfl rfl hu rfl rfl rfl rfl ?_)
  | (exact⟨rfl,rfl,rfl,rfl,rfl,rfl,trivial⟩)
  | fail)
end
def zsc (p:Evt) (n:Nat):Evt:=⟨(n:Int)+1,p.ki,p.ns,p.vs,p.tx⟩
def yew (r:Rgs) (n:Nat) (o:Option Evt):Int:=
 if zar [if !o.isSome then 25 else 0,if 1000<=n then 5 else 0]≠0 then zar [if !o.isSome then 25 else 0,if 1000<=n then 5 else 0]
 else if zi8 (zsc (o.getD noE) n)≠0 then zi8 (zsc (o.getD noE) n) else z12 r n (zsc (o.getD noE) n)
def ykv (n:Nat):List UInt8:=[100,111,110,101,32]++zav 20 (n+1)
section
variable {E : Oracle} (g : Good E)
include g
theorem yse (ev:List Evt) (r:Rgs):Ui E zal [.ptr ⟨0,0,0⟩ 0 0,S []] (mR zaa ev r) (Aqv ([],25)) (mR zaa ev r):=by
 refine⟨?_⟩
 refine In.enter (f:=zal) g.lim rfl rfl ?_
 repeat' ((conv=>whnf);first
 | refine Yz ?_
  | (apply zah.of;assumption)
  | (refine zah.of (zgf g _ _) ?_)
  | (refine zah.of (zec g _ _) ?_)
  | (exact⟨rfl,rfl,rfl,rfl,rfl,rfl,trivial⟩)
  | fail)
theorem ysd (ev:List Evt) (r:Rgs) (text:List UInt8) (hl:text.length<=4096) (hne:text≠[]) (hq:zpf (.str (hdW text)) qsM=some none) (hk:zet (hdW text)=false):Ui E zal [.ptr ⟨0,0,0⟩ 0 0,S text] (mR zaa ev r) (Aqv ([],13)) (mR zaa ev r):=by
 refine⟨?_⟩
 obtain⟨q,b,hcut⟩:=yi5 g text (by omega)
 have hfk:=yp3 hk
 generalize hdW text=nm at *
 have hpos:0<text.length:=List.length_pos_iff.2 hne
 refine In.enter (f:=zal) g.lim rfl rfl ?_
 repeat' ((conv=>whnf);first
 | refine Yz ?_
  | (apply zah.of;assumption)
  | (refine zah.of (zgf g _ _) ?_)
  | (refine zah.of (zec g _ _) ?_)
  | (refine zb8.questions g rfl ?_)
  | (refine zb8.kinds g rfl ?_)
  | (refine Cmp.ff hne ?_)
  | (refine zht.mk ⟨_,hq,?_⟩)
  | (refine zht.mk ⟨_,hfk,?_⟩)
  | (exact⟨rfl,rfl,rfl,rfl,rfl,rfl,trivial⟩)
  | fail)
theorem ysc (ev:List Evt) (r:Rgs) (ho:OkR r) (hrs:r.rs.length<1000) (hev:ev.length<=1000) (text:List UInt8) (hl:text.length<=4096) (hne:text≠[]) (hq:zpf (.str (hdW text)) qsM=some none) (hk:zet (hdW text)=true)
  (hb:((zps text).getD noE).ns.length<=1000000/\((zps text).getD noE).vs.length<=1000000):
  Ui E zal [.ptr ⟨0,0,0⟩ 0 0,S text] (mR zaa ev r) (if yew r ev.length (zps text)=0 then Aqv (ykv ev.length,0) else Aqv ([],yew r ev.length (zps text)))
   (if yew r ev.length (zps text)=0 then mR zaa (ev++[zsc ((zps text).getD noE) ev.length]) (zp8 r (zsc ((zps text).getD noE) ev.length)) else mR zaa ev r):=by
 refine⟨?_⟩
 obtain⟨q,b,hcut⟩:=yi5 g text (by omega)
 obtain⟨fa,fb,hfk⟩:=yhc hk
 have hps:=ybs g text (by omega)
 change Fc E zf1 [S text] (.tup [Evv ((zps text).getD noE),B (zps text).isSome]) at hps
 generalize hdW text=nm at *
 have hpos:0<text.length:=List.length_pos_iff.2 hne
 generalize zps text=o at *
 cases o with
 | none=>
  have hbd:yew r ev.length none=25:=rfl
  rw [hbd,if_neg (show ¬(25:Int)=0 by decide),if_neg (show ¬(25:Int)=0 by decide)]
  change Fc E zf1 [S text] (.tup [.d (.agg [DI 0,.str [],.list 0 [],.list 0 [],.str []]),B false]) at hps
  by_cases hfull:1000<=ev.length
  ·refine In.enter (f:=zal) g.lim rfl rfl ?_
   repeat' ((conv=>whnf);first
   | refine Yz ?_
    | (apply zah.of;assumption)
    | (refine zah.of (zgf g _ _) ?_)
    | (refine zah.of (zec g _ _) ?_)
    | (refine zb8.questions g rfl ?_)
    | (refine zb8.kinds g rfl ?_)
    | (refine Cmp.ff hne ?_)
    | (refine zht.mk ⟨_,hq,?_⟩)
    | (refine zht.mk ⟨_,hfk,?_⟩)
    | (exact⟨rfl,rfl,rfl,rfl,rfl,rfl,trivial⟩)
    | fail)
  ·refine In.enter (f:=zal) g.lim rfl rfl ?_
   repeat' ((conv=>whnf);first
   | refine Yz ?_
    | (apply zah.of;assumption)
    | (refine zah.of (zgf g _ _) ?_)
    | (refine zah.of (zec g _ _) ?_)
    | (refine zb8.questions g rfl ?_)
    | (refine zb8.kinds g rfl ?_)
    | (refine Cmp.ff hne ?_)
    | (refine zht.mk ⟨_,hq,?_⟩)
    | (refine zht.mk ⟨_,hfk,?_⟩)
    | (exact⟨rfl,rfl,rfl,rfl,rfl,rfl,trivial⟩)
    | fail)
 | some p=>
 change p.ns.length<=1000000/\p.vs.length<=1000000 at hb
 have hce:=zrb g (zsc p ev.length) hb.1 hb.2
 have hqa:=fun hc=>z9a g zaa ev r ho (zsc p ev.length) hc (by omega)
 have hua:=fun hs=>ysb g zaa ev r ho hrs (zsc p ev.length) hs hev
 have hit:=z4m g ((ev.length:Int)+1) (by omega)
 have hdl:=zpe 20 ((ev.length:Int)+1).toNat
 have hmx:zmy=9223372036854775807:=rfl
 have hst:zi8 (zsc p ev.length)=0->zie r ev.length (zsc p ev.length)=z12 r ev.length (zsc p ev.length):=fun h=>by rw [zie,if_neg (fun hn=>hn h)]
 have hbe:yew r ev.length (some p)=if zar [0,if 1000<=ev.length then 5 else 0]≠0 then zar [0,if 1000<=ev.length then 5 else 0] else if zi8 (zsc p ev.length)≠0 then zi8 (zsc p ev.length) else z12 r ev.length (zsc p ev.length):=rfl
 have hgd:(some p).getD noE=p:=rfl
 rw [hgd]
 have hdt:Aqv (ykv ev.length,0)= .tup [S ([100,111,110,101,32]++zav 20 ((ev.length:Int)+1).toNat),I 0]:=rfl
 rw [hdt]
 generalize hbb:yew r ev.length (some p)=bb at *
 obtain⟨nu,ki,ns,vs,tx⟩:=p
 change Fc E zf1 [S text] (.tup [.d (.agg [DI nu,.str ki,.list ns.length (ns.map D.str),.list vs.length (vs.map DI),.str tx]),B true]) at hps
 change Fc E zc9 [.d (.agg [DI ((ev.length:Int)+1),.str ki,.list ns.length (ns.map D.str),.list vs.length (vs.map DI),.str tx])] _ at hce
 change ∀hc,Qs E zas [.ptr ⟨0,0,0⟩ 0 0,.d (.agg [DI ((ev.length:Int)+1),.str ki,.list ns.length (ns.map D.str),.list vs.length (vs.map DI),.str tx])] _ _ at hqa
 change ∀hs,Us E zaj [.ptr ⟨0,0,0⟩ 0 0,.d (.agg [DI ((ev.length:Int)+1),.str ki,.list ns.length (ns.map D.str),.list vs.length (vs.map DI),.str tx])] _ _ _ at hua
 by_cases hfull:1000<=ev.length
 ·have hbd:bb=5:=by rw [hbe,if_pos hfull];rfl
  clear hbe hbb
  subst hbd
  rw [if_neg (show ¬(5:Int)=0 by decide),if_neg (show ¬(5:Int)=0 by decide)]
  refine In.enter (f:=zal) g.lim rfl rfl ?_
  repeat' ((conv=>whnf);first
  | refine Yz ?_
   | (apply zah.of;assumption)
   | (refine zah.of (zgf g _ _) ?_)
   | (refine zah.of (zec g _ _) ?_)
   | (refine zb8.questions g rfl ?_)
   | (refine zb8.kinds g rfl ?_)
   | (refine Cmp.ff hne ?_)
   | (refine zht.mk ⟨_,hq,?_⟩)
   | (refine zht.mk ⟨_,hfk,?_⟩)
   | (exact⟨rfl,rfl,rfl,rfl,rfl,rfl,trivial⟩)
   | fail)
 rw [if_neg hfull,if_neg (show ¬zar [0,0]≠0 by decide)] at hbe
 generalize zsc ⟨nu,ki,ns,vs,tx⟩ ev.length=e' at *
 by_cases hc:zi8 e'=0
 ·rw [hc,if_neg (fun h=>h rfl)] at hbe
  rw [hc] at hce
  have hqa:=hqa hc
  rw [<-hbe] at hqa
  have hst:=hst hc
  clear hbb
  by_cases ha:bb=0
  ·rw [if_pos ha,if_pos ha]
   have hua:=hua (hst.trans (hbe.symm.trans ha))
   rw [ha] at hqa
   refine In.enter (f:=zal) g.lim rfl rfl ?_
   repeat' ((conv=>whnf);first
   | refine Yz ?_
    | (apply zah.of;assumption)
    | (refine zah.of (zgf g _ _) ?_)
    | (refine zah.of (zec g _ _) ?_)
    | (refine zb8.questions g rfl ?_)
    | (refine zb8.kinds g rfl ?_)
    | (refine Cmp.ff hne ?_)
    | (refine zht.mk ⟨_,hq,?_⟩)
    | (refine zht.mk ⟨_,hfk,?_⟩)
    | (refine zj6.of (r':=I 0) isR rfl rfl rfl rfl hqa rfl rfl rfl ?_)
    | (refine zbd.mk (by rw [hmx];simp only [List.length_cons,List.length_nil];omega) ?_)
    | (refine zqp.of (r':= .tup []) isR rfl rfl rfl rfl hua rfl rfl rfl ?_)
    | (refine Cmp.ff (fun h=>h rfl) ?_)
    | (exact⟨rfl,rfl,rfl,rfl,rfl,rfl,trivial⟩)
    | fail)
  ·rw [if_neg ha,if_neg ha]
   refine In.enter (f:=zal) g.lim rfl rfl ?_
   repeat' ((conv=>whnf);first
   | refine Yz ?_
    | (apply zah.of;assumption)
    | (refine zah.of (zgf g _ _) ?_)
    | (refine zah.of (zec g _ _) ?_)
    | (refine zb8.questions g rfl ?_)
    | (refine zb8.kinds g rfl ?_)
    | (refine Cmp.ff hne ?_)
    | (refine zht.mk ⟨_,hq,?_⟩)
    | (refine zht.mk ⟨_,hfk,?_⟩)
    | (refine zj6.of (r':=I bb) isR rfl rfl rfl rfl hqa rfl rfl rfl ?_)
    | (refine Cmp.tt ha ?_)
    | (exact⟨rfl,rfl,rfl,rfl,rfl,rfl,trivial⟩)
    | fail)
 ·rw [if_pos hc] at hbe
  rw [<-hbe] at hce hc
  clear hbb
  rw [if_neg hc,if_neg hc]
  refine In.enter (f:=zal) g.lim rfl rfl ?_
  repeat' ((conv=>whnf);first
  | refine Yz ?_
   | (apply zah.of;assumption)
   | (refine zah.of (zgf g _ _) ?_)
   | (refine zah.of (zec g _ _) ?_)
   | (refine zb8.questions g rfl ?_)
   | (refine zb8.kinds g rfl ?_)
   | (refine Cmp.ff hne ?_)
   | (refine zht.mk ⟨_,hq,?_⟩)
   | (refine zht.mk ⟨_,hfk,?_⟩)
   | (refine Cmp.tt hc ?_)
   | (refine Cmp.ff hc ?_)
   | (exact⟨rfl,rfl,rfl,rfl,rfl,rfl,trivial⟩)
   | fail)
end
section
variable {E : Oracle} (g : Good E)
include g
theorem yik (l:List Evt) (hl:l.length<=999) (hb:∀e∈l,e.ns.length<=1000000/\e.vs.length<=1000000) (e:Evt) (hn:e.ns.length<=1000000) (hv:e.vs.length<=1000000):Fc E ze6 [LE l,Evv e] (I (erA l e)):=by
 have p1:=zn0 g l (by omega) hb
 have p2:=zq9 g e hn hv
 have p3:=zn0 g (l++[e]) (by rw [List.length_append,List.length_singleton];omega) fun x hx=>by
  rcases List.mem_append.1 hx with hx|hx
  ·exact hb x hx
  ·rw [List.mem_singleton] at hx;subst hx;exact⟨hn,hv⟩
 have hml:(l.flatMap Evt.cells).length=l.length*5:=zag Evt.cells 5 evw l
 have hLE:LE (l++[e])= .d (.list (0+l.length+1) ([]++l.flatMap Evt.cells++(e.cells++[]))):=by
  unfold LE
  rw [List.length_append,List.flatMap_append,List.flatMap_cons,List.flatMap_nil,Nat.zero_add]
  rfl
 rw [hLE] at p3
 by_cases h0:erL l=0
 ·by_cases hc:zi8 e=0
  ·have he:erA l e=erL (l++[e]):=by
    unfold erA
    rw [h0,hc,if_neg (show ¬ 1000<=l.length by omega),if_neg (fun h=>h rfl)]
    have h1:=zvh l rg0 0 [e]
    have h0':(zeh rg0 0 l).2.2=0:=h0
    rw [if_neg (fun hn=>hn h0'),Nat.zero_add] at h1
    have hst:zie (rgL l) l.length e=z12 (rgL l) l.length e:=by rw [zie,if_neg (fun h=>h hc)]
    unfold erL
    rw [h1,zh2]
    have hst':zie (zeh rg0 0 l).1 l.length e=z12 (rgL l) l.length e:=hst
    by_cases ha:z12 (rgL l) l.length e=0
    ·rw [hst',if_neg (fun h=>h ha),ha];rfl
    ·rw [hst',if_pos ha]
   rw [he]
   rw [h0] at p1
   rw [hc] at p2
   obtain⟨nu,ki,ns,vs,tx⟩:=e
   change Fc E ze6 [LE l,.d (.agg [DI nu,.str ki,.list ns.length (ns.map D.str),.list vs.length (vs.map DI),.str tx])] _
   refine g.fn rfl rfl ?_
   repeat' ((conv=>whnf);first
   | refine Yz ?_
    | (apply zah.of;assumption)
    | (refine zbd.mk ⟨rfl,rfl,rfl,rfl,rfl,by first |exact hml|rfl,by dsimp only;omega,by first |omega|(dsimp only;omega)⟩ ?_)
    | (rw [if_pos ⟨rfl,rfl⟩];refine zah.of p3 ?_)
    | (refine Ret.mk rfl)
    | fail)
  ·have he:erA l e=zi8 e:=by
    unfold erA
    have:zar [erL l,zi8 e,if 1000<=l.length then 5 else 0]=zi8 e:=by
     rw [h0]
     unfold zar
     rw [if_pos rfl]
     unfold zar
     rw [if_neg hc]
    rw [this,if_pos hc]
   rw [he]
   rw [h0] at p1
   obtain⟨nu,ki,ns,vs,tx⟩:=e
   change Fc E ze6 [LE l,.d (.agg [DI nu,.str ki,.list ns.length (ns.map D.str),.list vs.length (vs.map DI),.str tx])] _
   refine g.fn rfl rfl ?_
   repeat' ((conv=>whnf);first
   | refine Yz ?_
    | (apply zah.of;assumption)
    | (refine Cmp.tt hc ?_)
    | (refine Ret.mk rfl)
    | fail)
 ·have he:erA l e=erL l:=by
   unfold erA
   have:zar [erL l,zi8 e,if 1000<=l.length then 5 else 0]=erL l:=by
    unfold zar
    rw [if_neg h0]
   rw [this,if_pos h0]
  rw [he]
  obtain⟨nu,ki,ns,vs,tx⟩:=e
  change Fc E ze6 [LE l,.d (.agg [DI nu,.str ki,.list ns.length (ns.map D.str),.list vs.length (vs.map DI),.str tx])] _
  refine g.fn rfl rfl ?_
  repeat' ((conv=>whnf);first
  | refine Yz ?_
   | (apply zah.of;assumption)
   | (refine Cmp.ff h0 ?_)
   | (refine Cmp.tt h0 ?_)
   | (refine Ret.mk rfl)
   | fail)
end
def yfz (l:List Evt) (t:List UInt8):(List UInt8×Int)×List Evt:=
 if t=[] then(([],25),l)
 else if zet (hdW t)=false then(ypr (rgL l) t,l)
 else if yew (rgL l) l.length (zps t)=0 then((ykv l.length,0),l++[zsc ((zps t).getD noE) l.length])
 else(([],yew (rgL l) l.length (zps t)),l)
theorem zzl (r:Rgs) (n:Nat):yew r n none=25:=rfl
theorem zzm {r:Rgs} {n:Nat} (hn:n<1000) (p:Evt):yew r n (some p)=if zi8 (zsc p n)≠0 then zi8 (zsc p n) else z12 r n (zsc p n):=by
 unfold yew
 rw [if_neg (show ¬ 1000<=n by omega)]
 rfl
theorem ypw {l:List Evt} (hz:erL l=0) (hl:l.length<1000) (e:Evt):erA l e=if zi8 e≠0 then zi8 e else z12 (rgL l) l.length e:=by
 unfold erA
 rw [hz,if_neg (show ¬ 1000<=l.length by omega)]
 by_cases hc:zi8 e=0
 ·rw [hc]
  rfl
 ·have:zar [0,zi8 e,0]=zi8 e:=by simp [zar,hc]
  rw [this]
theorem yh9 {t:List UInt8}:((zps t).getD noE).ns.length<=3/\((zps t).getD noE).vs.length<=4:=by
 cases h:zps t with
 | none=>exact⟨by decide,by decide⟩
 | some p=>
  unfold zps at h
  split at h
  ·cases h
  ·rename_i k r hp
   split at h
   ·obtain rfl:=Option.some.inj h
    rename_i hok
    have ⟨g1,g2⟩:=ztm k
    unfold z13 at hok
    simp only [Bool.and_eq_true,decide_eq_true_eq] at hok
    have:=hok.1.1.2
    unfold evW
    simp only [Option.getD_some,List.length_take,List.length_map,List.length_drop]
    omega
   ·cases h
section
variable {E : Oracle} (g : Good E)
include g
theorem ylp (k:List UInt8):Fc E zob [S k] (B (zet k)):=by
 have hf:=yil g k
 unfold Frm at hf
 refine g.fn rfl rfl ?_
 repeat' ((conv=>whnf);first
 | refine Yz ?_
  | (apply zah.of;assumption)
  | (refine Ret.mk rfl)
  | fail)
theorem ysh (l:List Evt) (hl:l.length<999) (hb:∀e∈l,e.ns.length<=1000000/\e.vs.length<=1000000) (hz:erL l=0) (hnm:NmR (rgL l)) (text:List UInt8) (ht:text.length<=100000):
  Fc E zts [LE l,S text] (.tup [S (yfz l text).1.1,I (yfz l text).1.2,LE (yfz l text).2]):=by
 have hsp:=zpx g text (by omega)
 have ha:=yo9 g l (by omega) hb hz hnm text ht
 have hps:=yd1 g text (by omega)
 have hac:=yik g l (by omega) hb (zsc ((zps text).getD noE) l.length)
 obtain⟨b1,b2⟩:=yh9 (t:=text)
 have hac:=hac (Nat.le_trans b1 (by decide)) (Nat.le_trans b2 (by decide))
 rw [ypw hz (by omega)] at hac
 have hik:=ylp g (hdW text)
 obtain⟨k,rest,hp⟩:∃k rest,parts 32 text=k::rest:=by
  cases h:parts 32 text with
  | nil=>exact absurd h (znz 32 text)
  | cons k r=>exact⟨k,r,rfl⟩
 have hk:hdW text=k:=by unfold hdW;rw [hp];rfl
 rw [hp] at hsp
 change Fc E n_strings_Split [S text,S [32]] (.d (.list (rest.length+1) (.str k::rest.map D.str))) at hsp
 rw [hk] at hik
 unfold yfz
 rw [hk]
 by_cases hne:text=[]
 ·rw [if_pos hne]
  refine g.fn rfl rfl ?_
  repeat' ((conv=>whnf);first
  | refine Yz ?_
   | (refine Cmp.tt hne ?_)
   | (refine Ret.mk rfl)
   | fail)
 rw [if_neg hne]
 cases hkk:zet k with
 | false=>
  rw [if_pos rfl]
  rw [hkk] at hik
  refine g.fn rfl rfl ?_
  repeat' ((conv=>whnf);first
  | refine Yz ?_
   | (apply zah.of;assumption)
   | (refine Cmp.ff hne ?_)
   | (refine Ret.mk rfl)
   | fail)
 | true=>
 rw [hkk] at hik
 rw [if_neg (by decide)]
 clear ha hp hk
 cases hpe:zps text with
 | none=>
  rw [hpe] at hps
  rw [zzl,if_neg (by decide)]
  change Fc E zf2 [S text] (.tup [.d (.agg [DI 0,.str [],.list 0 [],.list 0 [],.str []]),B false]) at hps
  refine g.fn rfl rfl ?_
  repeat' ((conv=>whnf);first
  | refine Yz ?_
   | (apply zah.of;assumption)
   | (refine Cmp.ff hne ?_)
   | (refine Ret.mk rfl)
   | fail)
 | some p=>
 rw [hpe] at hps hac b1 b2
 rw [zzm (by omega)]
 have hgd:(some p).getD noE=p:=rfl
 rw [hgd] at hac b1 b2 ⊢
 have hT:=zrq g ((l.length:Int)+1) (by omega)
 have hdl:=zpe 20 ((l.length:Int)+1).toNat
 have hdt:ykv l.length=[100,111,110,101,32]++zjm ((l.length:Int)+1):=rfl
 have hdl2:(zjm ((l.length:Int)+1)).length<=20:=hdl
 have hmx:zmy=9223372036854775807:=rfl
 have hml:(l.flatMap Evt.cells).length=l.length*5:=zag Evt.cells 5 evw l
 have hLE:LE (l++[zsc p l.length])= .d (.list (0+l.length+1) ([]++l.flatMap Evt.cells++((zsc p l.length).cells++[]))):=by
  unfold LE
  rw [List.length_append,List.flatMap_append,List.flatMap_cons,List.flatMap_nil,Nat.zero_add]
  rfl
 rw [hdt]
 generalize hbb:(if zi8 (zsc p l.length)≠0 then zi8 (zsc p l.length) else z12 (rgL l) l.length (zsc p l.length))=bb at *
 generalize zjm ((l.length:Int)+1)=tx at *
 have hap:bb=0->(if bb=0 then((([100,111,110,101,32]++tx,(0:Int)),l++[zsc p l.length]):(List UInt8×Int)×List Evt) else(([],bb),l))=(([100,111,110,101,32]++tx,0),l++[zsc p l.length]):=fun h=>if_pos h
 obtain⟨nu,ki,ns,vs,tx'⟩:=p
 change Fc E zf2 [S text] (.tup [.d (.agg [DI nu,.str ki,.list ns.length (ns.map D.str),.list vs.length (vs.map DI),.str tx']),B true]) at hps
 change Fc E ze6 [LE l,.d (.agg [DI ((l.length:Int)+1),.str ki,.list ns.length (ns.map D.str),.list vs.length (vs.map DI),.str tx'])] _ at hac
 by_cases h0:bb=0
 ·rw [hap h0,hLE]
  refine g.fn rfl rfl ?_
  repeat' ((conv=>whnf);first
  | refine Yz ?_
   | (apply zah.of;assumption)
   | (refine Cmp.ff hne ?_)
   | (refine Cmp.ff (fun h=>h h0) ?_)
   | (refine zbd.mk (by rw [hmx];simp only [List.length_cons,List.length_nil];omega) ?_)
   | (refine zbd.mk ⟨rfl,rfl,rfl,rfl,rfl,hml,by dsimp only;omega,by omega⟩ ?_)
   | (refine zbd.mk ⟨rfl,rfl,by omega,rfl,rfl,rfl,by dsimp only;omega,by omega⟩ ?_)
   | (refine zbd.mk ⟨.inl rfl,rfl,by omega⟩ ?_)
   | (refine Chk.mk rfl ?_)
   | (refine Ret.mk ?_)
   | fail)
  rw [if_pos ⟨rfl,rfl⟩]
  rfl
 ·rw [if_neg h0]
  refine g.fn rfl rfl ?_
  repeat' ((conv=>whnf);first
  | refine Yz ?_
   | (apply zah.of;assumption)
   | (refine Cmp.ff hne ?_)
   | (refine Cmp.tt h0 ?_)
   | (refine Ret.mk rfl)
   | fail)
theorem yo5 (l:List Evt) (hl:l.length<999) (hz:erL l=0) (hnm:NmR (rgL l)) (hrs:(rgL l).rs.length<1000) (text:List UInt8) (ht:text.length<=4096):
  Ui E zal [.ptr ⟨0,0,0⟩ 0 0,S text] (mR zaa l (rgL l)) (Aqv (yfz l text).1) (mR zaa (yfz l text).2 (rgL (yfz l text).2)):=by
 have ho:=z4l (by omega) hz
 unfold yfz
 by_cases hne:text=[]
 ·subst hne
  rw [if_pos rfl]
  exact yse g l (rgL l)
 rw [if_neg hne]
 cases hk:zet (hdW text) with
 | false=>
  rw [if_pos rfl]
  show Ui E _ _ _ (Aqv (ypr (rgL l) text)) _
  unfold ypr
  by_cases h1:hdW text=zkl
  ·rw [if_pos h1]
   exact yj1 g l (rgL l) text ht hne zkl h1 4 2 zby _ rfl (yqw g l (rgL l) ho text (by omega))
  rw [if_neg h1]
  by_cases h2:hdW text=zwu
  ·rw [if_pos h2]
   exact yj1 g l (rgL l) text ht hne zwu h2 3 2 zbz _ rfl (yqx g l (rgL l) ho hnm text (by omega))
  rw [if_neg h2]
  by_cases h3:hdW text=zfn
  ·rw [if_pos h3]
   exact yj1 g l (rgL l) text ht hne zfn h3 2 1 zb0 _ rfl (yqy g l (rgL l) ho hnm text (by omega))
  rw [if_neg h3]
  by_cases h4:hdW text=zl1
  ·rw [if_pos h4]
   exact yj1 g l (rgL l) text ht hne zl1 h4 2 0 zb1 _ rfl (yqz g l (rgL l) ho hnm text (by omega))
  rw [if_neg h4]
  by_cases h5:hdW text=zse
  ·rw [if_pos h5]
   exact yj1 g l (rgL l) text ht hne zse h5 1 0 zcj _ rfl (yq0 g l (rgL l) ho hnm text (by omega))
  rw [if_neg h5]
  exact ysd g l (rgL l) text ht hne (yii ⟨h1,h2,h3,h4,h5⟩) hk
 | true=>
  rw [if_neg (by decide)]
  have hq:zpf (.str (hdW text)) qsM=some none:=by
   refine yii ⟨?_,?_,?_,?_,?_⟩<;>intro h<;>rw [h] at hk<;>exact absurd hk (by decide)
  obtain⟨b1,b2⟩:=yh9 (t:=text)
  have h:=ysc g l (rgL l) ho hrs (by omega) text ht hne hq hk ⟨Nat.le_trans b1 (by decide),Nat.le_trans b2 (by decide)⟩
  by_cases hb0:yew (rgL l) l.length (zps text)=0
  ·rw [if_pos hb0,if_pos hb0] at h
   rw [if_pos hb0]
   have hr:rgL (l++[zsc ((zps text).getD noE) l.length])=zp8 (rgL l) (zsc ((zps text).getD noE) l.length):=by
    cases hpe:zps text with
    | none=>rw [hpe,zzl] at hb0;exact absurd hb0 (by decide)
    | some p=>
     rw [hpe,zzm (by omega)] at hb0
     have hst:zie (rgL l) l.length (zsc p l.length)=0:=hb0
     unfold rgL
     rw [zvh,if_neg (show ¬(zeh rg0 0 l).2.2≠0 from fun h=>h hz),Nat.zero_add]
     show (zeh (rgL l) l.length [zsc p l.length]).1=_
     rw [zh2,if_neg (fun h=>h hst)]
     rfl
   rw [hr]
   exact h
  ·rw [if_neg hb0,if_neg hb0] at h
   rw [if_neg hb0]
   exact h
end
theorem ypu {l:List Evt} (hl:l.length<999) (hz:erL l=0) (t:List UInt8):erL (yfz l t).2=0/\(yfz l t).2.length<=l.length+1:=by
 unfold yfz
 by_cases hne:t=[]
 ·rw [if_pos hne];exact⟨hz,Nat.le_succ _⟩
 rw [if_neg hne]
 cases hk:zet (hdW t) with
 | false=>rw [if_pos rfl];exact⟨hz,Nat.le_succ _⟩
 | true=>
  rw [if_neg (by decide)]
  by_cases hb0:yew (rgL l) l.length (zps t)=0
  ·rw [if_pos hb0]
   refine⟨?_,by simp⟩
   cases hpe:zps t with
   | none=>rw [hpe,zzl] at hb0;exact absurd hb0 (by decide)
   | some p=>
    rw [hpe,zzm (by omega)] at hb0
    have hst:zie (rgL l) l.length (zsc p l.length)=0:=hb0
    unfold erL
    rw [zvh,if_neg (show ¬(zeh rg0 0 l).2.2≠0 from fun h=>h hz),Nat.zero_add]
    show (zeh (rgL l) l.length [zsc p l.length]).2.2=_
    rw [zh2,if_neg (fun h=>h hst)]
    rfl
  ·rw [if_neg hb0];exact⟨hz,Nat.le_succ _⟩
def z9b (l:List Evt) (at0:Nat):List (List UInt8)->List Evt×Nat×Int
 | []=>(l,at0,0)
 | p::r=>if zll p=false then(l,at0,28) else if z6v (yal p) l.length≠0 then(l,at0,z6v (yal p) l.length) else z9b (l++[(ztw (yal p)).1]) (at0+p.length) r
def yf3 (s:List UInt8):List Evt×Nat×Int:=if 1000000<s.length then([],0,26) else z9b [] 0 (pcs s)
abbrev RcV (o:List Evt×Nat×Int):V:= .tup [LE o.1,I (o.2.1:Nat),I o.2.2]
theorem zvg {l:List Evt} {i:Nat} {s:List UInt8} (h:s≠[]) (hn:(10:UInt8)∉s):z9b l i (pcs s)=(l,i,28):=by
 have hw:zll s=false:=decide_eq_false fun e=>by
  obtain⟨t,e⟩:=List.getLast?_eq_some_iff.1 e
  exact hn (by rw [e];simp)
 rw [ybk s h hn,z9b,if_pos hw]
theorem zvf {l:List Evt} {i:Nat} {a r:List UInt8} (hn:(10:UInt8)∉a):z9b l i (pcs (a++10::r))=if z6v a l.length≠0 then(l,i,z6v a l.length) else z9b (l++[(ztw a).1]) (i+(a.length+1)) (pcs r):=by
 rw [yie a r hn,z9b,(zy6 _).1,(zy6 _).2,if_neg (by decide)]
 simp
theorem ybr {s:List UInt8} {b:Int} (h:z6v s b=0):(ztw s).2=0/\(ztw s).1.nu=b+1:=by
 unfold z6v at h
 split at h
 ·rename_i h1;exact absurd h h1
 ·rename_i h1
  split at h
  ·cases h
  ·rename_i h2
   exact⟨Classical.not_not.1 h1,Classical.not_not.1 h2⟩
theorem ygy {k:List UInt8} (h:zet k=true):1<=zca k/\1<=zjn k:=by
 rcases zkm k with rfl|rfl|rfl|rfl|rfl|rfl|⟨h1,h2,h3,h4,h5,h6⟩
 all_goals (try (exact⟨by decide,by decide⟩))
 exfalso
 unfold zet at h
 simp only [Bool.or_eq_true,decide_eq_true_eq] at h
 rcases h with((((h|h)|h)|h)|h)|h
 ·exact h1 h
 ·exact h2 h
 ·exact h3 h
 ·exact h4 h
 ·exact h5 h
 ·exact h6 h
theorem yct {s:List UInt8} (h:zgz s=true):zjm (zna s)=s:=by
 unfold zgz at h
 unfold zna
 cases hn:z08 s with
 | none=>rw [hn] at h;cases h
 | some n=>exact z8z hn
theorem yh2 {k:List UInt8} {r:List (List UInt8)} (h:z13 k r=true):zet k=true/\r.length=zca k+zjn k/\∀x∈r.drop (zca k),zgz x=true:=by
 unfold z13 at h
 simp only [Bool.and_eq_true,decide_eq_true_eq] at h
 exact⟨h.1.1.1,h.1.1.2,List.all_eq_true.1 h.2⟩
theorem yh8 {s:List UInt8} {e:Evt} (h:zps s=some e):zx5 e=s:=by
 unfold zps at h
 split at h
 ·cases h
 ·rename_i k r hp
  split at h
  ·rename_i hok
   obtain rfl:=Option.some.inj h
   obtain⟨_,_,h3⟩:=yh2 hok
   unfold zx5 evW
   have e1:((r.drop (zca k)).map zna).map zjm=r.drop (zca k):=by
    rw [List.map_map]
    conv=>rhs;rw [<-List.map_id (r.drop (zca k))]
    exact List.map_congr_left fun x hx=>yct (h3 x hx)
   show zga 32 (k::r.take (zca k)++((r.drop (zca k)).map zna).map zjm)=s
   rw [e1,List.cons_append,List.take_append_drop,<-hp]
   exact zxj 32 s
  ·cases h
theorem yia {s:List UInt8} {e:Evt} (h:zps s=some e):(1<=e.ns.length/\e.ns.length<=3)/\(1<=e.vs.length/\e.vs.length<=4)/\∀x∈e.vs,0<=x/\x<=999999999:=by
 unfold zps at h
 split at h
 ·cases h
 ·rename_i k r hp
  split at h
  ·rename_i hok
   obtain rfl:=Option.some.inj h
   obtain⟨h1,h2,h3⟩:=yh2 hok
   have ⟨f1,f2⟩:=ygy h1
   have ⟨g1,g2⟩:=ztm k
   unfold evW
   dsimp only
   rw [List.length_take,List.length_map,List.length_drop]
   refine⟨by omega,by omega,fun x hx=> ?_⟩
   obtain⟨y,_,rfl⟩:=List.mem_map.1 hx
   exact yg8 y
  ·cases h
theorem yfs {t:List UInt8} {e:Evt} (h:z91 t=some e):zxq e=t/\zi8 e=0/\(t.length<=1000000->PrE e):=by
 rcases zw7 t with⟨_,_,ht⟩|⟨n,r,_,hth,_,ht⟩
 ·rw [ht] at h;cases h
 ·rw [ht] at h
  split at h
  ·rename_i hi
   split at h
   ·rename_i e' hp
    split at h
    ·rename_i hc
     obtain rfl:=Option.some.inj h
     have hb:=yh8 hp
     obtain⟨p1,p2,p3⟩:=yia hp
     have ht':zxq {e' with nu:=zna n}=t:=by
      unfold zxq
      show zjm (zna n)++32::zx5 e'=t
      rw [hb,yct hi,hth]
     exact⟨ht',hc,fun hl=>⟨yg8 n,⟨p1.1,by show e'.ns.length<=1000;omega⟩,⟨p2.1,by show e'.vs.length<=1000;omega⟩,p3,by rw [ht'];exact hl⟩⟩
    ·cases h
   ·cases h
  ·cases h
theorem yiu {s:List UInt8} (h:(ztw s).2=0):zyh (ztw s).1=s/\zi8 (ztw s).1=0/\(s.length<=1000000->PrE (ztw s).1):=by
 by_cases h8:s.length<8
 ·rw [zrr h8] at h;cases h
 ·obtain⟨t,x,c,rfl,h7⟩:=ygm (Nat.le_of_not_lt h8)
  have hE:=z6w (t:=t) (x:=x) h7
  split at hE
  ·rw [hE] at h;cases h
  ·rename_i hx
   split at hE
   ·rw [hE] at h;cases h
   ·rename_i hc
    rw [hE] at h ⊢
    cases ht:z91 t with
    | none=>rw [ht] at h;cases h
    | some e=>
     obtain⟨b1,b2,b3⟩:=yfs ht
     have hx':x=35:=Classical.byContradiction fun e=>hx (.inl e)
     have hc':c=yjv t:=Classical.not_not.1 hc
     refine⟨?_,b2,fun hl=>b3 ?_⟩
     ·show zyh e=_
      unfold zyh
      rw [b1,hx',hc']
     ·rw [List.length_append] at hl;omega
theorem ylf (a b:List Evt):zww (a++b)=zww a++zww b:=List.flatMap_append ..
theorem ylg (e:Evt):zww [e]=zyh e++[10]:=by unfold zww;simp
theorem z1n:∀(n:Nat) (s:List UInt8),s.length<=n->n<=1000000->∀(l0:List Evt) (i:Nat) (l:List Evt) (j:Nat) (x:Int),z9b l0 i (pcs s)=(l,j,x)->(∀e∈l0,PrE e/\zi8 e=0)->
  (∀e∈l,PrE e/\zi8 e=0)/\l0.length<=l.length/\l.length<=l0.length+s.length/\(x=0->zww l=zww l0++s)
 | 0,s,hs,_,l0,i,l,j,x,h,h0=>by
  obtain rfl:=List.length_eq_zero_iff.1 (Nat.le_zero.1 hs)
  rw [z6p,z9b] at h
  obtain⟨rfl,_,rfl⟩:l0=l/\i=j/\(0:Int)=x:=by simpa using h
  exact⟨h0,Nat.le_refl _,by simp,fun _=>by simp⟩
 | n+1,s,hs,hn,l0,i,l,j,x,h,h0=>by
  by_cases he:s=[]
  ·exact z1n 0 s (by rw [he];simp) (by omega) l0 i l j x h h0
  ·rcases z1g s he with⟨hnl,hp⟩|⟨a,r,hnl,rfl,hp⟩
   ·rw [zvg he hnl] at h
    obtain⟨rfl,_,rfl⟩:l0=l/\i=j/\(28:Int)=x:=by simpa using h
    exact⟨h0,Nat.le_refl _,by omega,fun h=>by cases h⟩
   ·have hlen:(a++10::r).length=a.length+(r.length+1):=by simp
    rw [zvf hnl] at h
    split at h
    ·rename_i hz
     obtain⟨rfl,_,rfl⟩:l0=l/\i=j/\z6v a l0.length=x:=by simpa using h
     exact⟨h0,Nat.le_refl _,by omega,fun h=>absurd h hz⟩
    ·rename_i hz
     obtain⟨z1,z2⟩:=ybr (Classical.not_not.1 hz)
     obtain⟨b1,b2,b3⟩:=yiu z1
     have ih:=z1n n r (by omega) (by omega) _ _ _ _ _ h (fun e hm=>by
      rcases List.mem_append.1 hm with hm|hm
      ·exact h0 e hm
      ·rw [List.mem_singleton] at hm
       subst hm
       exact⟨b3 (by omega),b2⟩)
     rw [List.length_append,List.length_singleton] at ih
     obtain⟨i1,i2,i3,i4⟩:=ih
     refine⟨i1,by omega,by omega,fun hx=> ?_⟩
     rw [i4 hx,ylf,ylg,b1]
     simp
theorem yiv {s:List UInt8} (hs:s.length<=1000000):(∀e∈(yf3 s).1,PrE e/\zi8 e=0)/\(yf3 s).1.length<=s.length/\((yf3 s).2.2=0->zww (yf3 s).1=s):=by
 unfold yf3
 rw [if_neg (by omega)]
 obtain⟨h1,_,h3,h4⟩:=z1n s.length s (Nat.le_refl _) hs [] 0 _ _ _ rfl (fun e h=>absurd h List.not_mem_nil)
 exact⟨h1,by simpa using h3,fun h=>by simpa [zww] using h4 h⟩
theorem z1z {l:List (List UInt8)} {m:Nat} (h:∀x∈l,x.length<=m):(zm9 l).length<=l.length*(m+1):=by
 induction l with
 | nil=>simp [zm9]
 | cons x r ih=>
  have:=h x (by simp)
  have ih:=ih fun y hy=>h y (by simp [hy])
  unfold zm9 at ih ⊢
  rw [List.flatMap_cons,List.length_append,List.length_cons,List.length_cons,Nat.succ_mul]
  omega
structure ypo (e:Evt):Prop where
 ki:e.ki.length<=60
 ns:e.ns.length<=6
 vs:e.vs.length<=8
 na:∀x∈e.ns,x.length<=60
theorem ynp {e:Evt} (h:zi8 e=0):(1<=e.nu/\e.nu<=1000)/\zet e.ki=true/\e.ns.length=zca e.ki/\e.vs.length=zjn e.ki/\far e.vs=false:=by
 unfold zi8 at h
 rw [zhn] at h
 have h1:=h (rng e.nu 1 1000) (by simp)
 have h2:=h (if !zet e.ki then 13 else 0) (by simp)
 have h3:=h (if e.ns.length≠zca e.ki\/e.vs.length≠zjn e.ki then 2 else 0) (by simp)
 have h5:=h (if far e.vs then 3 else 0) (by simp)
 refine⟨?_,?_,?_,?_,?_⟩
 ·unfold rng at h1
  split at h1
  ·cases h1
  ·omega
 ·cases hk:zet e.ki with
  | true=>rfl
  | false=>rw [hk] at h2;cases h2
 ·split at h3
  ·cases h3
  ·omega
 ·split at h3
  ·cases h3
  ·omega
 ·cases hk:far e.vs with
  | false=>rfl
  | true=>rw [hk] at h5;cases h5
theorem yl7 {e:Evt} (hs:ypo e) (h:zi8 e=0):PrE e/\(zxq e).length<=1000:=by
 obtain⟨h1,h2,h3,h4,h5⟩:=ynp h
 have ⟨f1,f2⟩:=ygy h2
 obtain⟨s1,s2,s3,s4⟩:=hs
 have hva:∀x∈e.vs,0<=x/\x<=999999999:=fun x hx=>by
  unfold far at h5
  rw [List.any_eq_false] at h5
  have:=h5 x hx
  unfold ykz at this
  simp only [decide_eq_true_eq] at this
  omega
 have hln:(zxq e).length<=1000:=by
  rw [yeo]
  have t1:=z1z s4
  have t2:(zm9 (e.vs.map zjm)).length<=e.vs.length*21:=by
   have:=z1z (l:=e.vs.map zjm) (m:=20) fun x hx=>by
    obtain⟨y,_,rfl⟩:=List.mem_map.1 hx
    exact ycu y
   rwa [List.length_map] at this
  have t3:=ycu e.nu
  have t4:e.ns.length*(60+1)<=6*61:=Nat.mul_le_mul_right _ s2
  have t5:e.vs.length*21<=8*21:=Nat.mul_le_mul_right _ s3
  simp only [List.length_append,List.length_cons,List.length_nil]
  omega
 exact⟨⟨by omega,by omega,by omega,hva,by omega⟩,hln⟩
theorem z6x:∀(n:Nat) (s:List UInt8),s.length<=n->∀(l0:List Evt) (i:Nat),(z9b l0 i (pcs s)).1.length*9<=l0.length*9+s.length
 | 0,s,hs,l0,i=>by
  obtain rfl:=List.length_eq_zero_iff.1 (Nat.le_zero.1 hs)
  rw [z6p,z9b]
  simp
 | n+1,s,hs,l0,i=>by
  by_cases he:s=[]
  ·exact z6x 0 s (by rw [he];simp) l0 i
  ·rcases z1g s he with⟨hnl,hp⟩|⟨a,r,hnl,rfl,hp⟩
   ·rw [zvg he hnl]
    dsimp only
    omega
   ·have hlen:(a++10::r).length=a.length+(r.length+1):=by simp
    rw [zvf hnl]
    split
    ·dsimp only;omega
    ·rename_i hz
     obtain⟨z1,_⟩:=ybr (Classical.not_not.1 hz)
     have h8:8<=a.length:=Nat.le_of_not_lt fun h=>by rw [zrr h] at z1;cases z1
     have ih:=z6x n r (by omega) (l0++[(ztw a).1]) (i+(a.length+1))
     rw [List.length_append,List.length_singleton] at ih
     omega
theorem ylu {s:List UInt8} (hs:s.length<=1000000):(yf3 s).1.length*9<=s.length:=by
 unfold yf3
 rw [if_neg (by omega)]
 have:=z6x s.length s (Nat.le_refl _) [] 0
 simpa using this
theorem yd7:∀(l:List Evt) (r:Rgs) (n:Nat),(zeh r n l).1.rs.length<=r.rs.length+l.length
 | [],r,n=>Nat.le_refl _
 | e::l,r,n=>by
  rw [zh2]
  split
  ·simp [rg0]
  ·have h1:=yd7 l (zp8 r e) (n+1)
   have h2:=ycl r e
   rw [List.length_cons]
   omega
theorem yqp (l:List Evt):(rgL l).rs.length<=l.length:=by
 have:=yd7 l rg0 0
 have e:(rgL l)=(zeh rg0 0 l).1:=rfl
 rw [e]
 simpa [rg0] using this
theorem yk7 {k:List UInt8} (h:zet k=true):k.length<=60:=by
 rcases zkm k with rfl|rfl|rfl|rfl|rfl|rfl|⟨h1,h2,h3,h4,h5,h6⟩
 all_goals (try (exact(by decide)))
 exfalso
 unfold zet at h
 simp only [Bool.or_eq_true,decide_eq_true_eq] at h
 rcases h with((((h|h)|h)|h)|h)|h
 ·exact h1 h
 ·exact h2 h
 ·exact h3 h
 ·exact h4 h
 ·exact h5 h
 ·exact h6 h
theorem ymv {e:Evt} (h:zi8 e=0):PrE e/\(zxq e).length<=1000:=by
 obtain⟨a1,a2,a3,a4,_⟩:=z0c h
 have ⟨f1,f2⟩:=ztm e.ki
 exact yl7 ⟨yk7 a1,by omega,by omega,fun x hx=>Nat.le_trans (ya6 (a4 x hx)) (by decide)⟩ h
theorem yap {l:List Evt} (hz:erL l=0):∀e∈l,zi8 e=0:=z9d l rg0 0 hz
theorem ygu {l:List Evt} (hz:erL l=0):∀e∈l,PrE e:=fun e he=>(ymv (yap hz e he)).1
theorem ymz {l:List Evt} (hz:erL l=0):NmR (rgL l):=yd5 l rg0 0 yqb hz
theorem ymy {l:List Evt} (hz:erL l=0):∀e∈l,e.ns.length<=1000000/\e.vs.length<=1000000:=fun e he=>by
 obtain⟨_,a2,a3,_⟩:=z0c (yap hz e he)
 have ⟨f1,f2⟩:=ztm e.ki
 omega
theorem yhh:∀(l:List Evt),(∀e∈l,(zxq e).length<=1000)->(zww l).length<=l.length*1009
 | [],_=>by simp [zww]
 | e::r,h=>by
  have ih:=yhh r fun x hx=>h x (List.mem_cons_of_mem _ hx)
  have h1:=h e (by simp)
  have e1:zww (e::r)=(zyh e++[10])++zww r:=rfl
  rw [e1,List.length_append,List.length_append,ylc,List.length_singleton,List.length_cons,Nat.succ_mul]
  omega
theorem ygt {l:List Evt} (hl:l.length<=900) (hz:erL l=0):(zww l).length<=1000000:=by
 have:=yhh l fun e he=>(ymv (yap hz e he)).2
 omega
theorem z8q:∀l:List (List UInt8),Lib.join l []=l.flatten
 | []=>rfl
 | [x]=>by simp [Lib.join,List.intercalate]
 | x::y::r=>by
  have ih:=z8q (y::r)
  simp only [Lib.join,List.intercalate] at ih
  simp [Lib.join,List.intercalate,ih]
theorem yjd {cx:Cx} {slot lo:Nat} {old m:Mem} {f t:Nat} {o p:Evl.Id} {a b:Nat} (hlo:lo<=o.lv) (hp:p.lv<lo) (hl:Evl.look m o=some (.cells t [.ptr p a b])):
  Evl.settle cx slot lo old m (.fn f [] [.ptr o 0 0])=some (.fn f [] [.ptr ⟨cx.lv,slot,Evl.freeK cx.lv slot old⟩ 0 0],old++[(⟨cx.lv,slot,Evl.freeK cx.lv slot old⟩,.cells t [.ptr p a b])]):=by
 have h1:¬lo<=p.lv:=by omega
 have hpo:p≠o:=fun e=>by subst e;omega
 have hr:Evl.reach lo m 64 (Evl.ids (.fn f [] [.ptr o 0 0])) []=[o]:=by
  simp [Evl.ids,Evl.idsL,Evl.reach,hlo,hl,Evl.idsO,h1]
 unfold Evl.settle
 simp only [hr]
 rw [if_pos (by simp [Evl.within,Evl.movable,Evl.onceB,Evl.ids,Evl.idsL,hl,hlo,Evl.idsO,Evl.isLoop,hp])]
 simp [Evl.number,Evl.ren,Evl.renL,Evl.subst,Evl.moved,hl,Evl.renO,hpo.symm]
theorem zrv.fnp {cx:Cx} {slot lo:Nat} {old m:Mem} {f t:Nat} {o p:Evl.Id} {a b:Nat} {K:V×Mem->Prop} (hlo:lo<=o.lv) (hp:p.lv<lo) (hl:Evl.look m o=some (.cells t [.ptr p a b])) (hf:Evl.freeK cx.lv slot old=0)
  (k:K (.fn f [] [.ptr ⟨cx.lv,slot,0⟩ 0 0],old++[(⟨cx.lv,slot,0⟩,.cells t [.ptr p a b])])):zrv (Evl.settle cx slot lo old m (.fn f [] [.ptr o 0 0])) K:=⟨_,yjd hlo hp hl,by rw [hf];exact k⟩
def ylt (e:Evt):List UInt8:=zyh e++[10]
section
variable {E : Oracle} (g : Good E)
include g
theorem yos (l:List (List UInt8)) (hl:l.length<=1000000) (hj:l.flatten.length<=1000000):Fc E n_strings_Join [.d (.list l.length (l.map D.str)),S []] (S l.flatten):=by
 refine Fc.extern g.lim (x:=joinX) rfl (v:=S l.flatten) (m':=[]) ?_ rfl
 simp only [joinX,zrt,z8q]
 rw [if_pos ⟨trivial,hj,hl⟩]
theorem ysg (ev:List Evt) (r:Rgs) (hev:ev.length<=1000) (hp:∀e∈ev,PrE e) (hln:(zww ev).length<=1000000):Ui E zbx [.ptr ⟨0,0,0⟩ 0 0] (mR zaa ev r) (S (zww ev)) (mR zaa ev r):=by
 refine⟨?_⟩
 have hlf:(ev.map ylt).flatten=zww ev:=(List.flatMap_def ..).symm
 have hj:=yos g (ev.map ylt) (by rw [List.length_map];omega) (by rw [hlf];exact hln)
 rw [hlf,List.length_map] at hj
 have hme:(ev.flatMap Evt.cells).length=ev.length*5:=zag Evt.cells 5 evw ev
 refine In.enter (f:=zbx) g.lim rfl rfl ?_
 repeat' ((conv=>whnf);first
 | refine Yz ?_
  | (refine In.enter (f:=zdx) g.lim rfl rfl ?_)
  | fail)
 refine zak.to (zak.up g (fun k=>[(1,.fn zjt [] []),(5,.ref ⟨2,5,0⟩ 0 k k),(8,.ref ⟨0,0,1⟩ 0 ev.length ev.length),(9,I ev.length),(10,I k)])
  (fun k=>mR zaa ev r++[(⟨2,4,0⟩,.row false zab 1 0 []),(⟨2,5,0⟩,.row false zab 1 k (((ev.take k).map ylt).map D.str))]) ev.length (fun k hk ih=> ?_) 0 (Nat.zero_le _)) rfl rfl
 by_cases hlt:k<ev.length
 ·have hwin:win (ev.flatMap Evt.cells) ((0+((k:Nat):Int).toNat)*5) 5=ev[k].cells:=by
   rw [Nat.zero_add,Int.toNat_natCast]
   exact zb9 Evt.cells 5 evw ev k hlt
  have ih:=ih hlt
  have hpe:=hp _ (List.getElem_mem hlt)
  have e0:((ev.take (k+1)).map ylt).map D.str=((ev.take k).map ylt).map D.str++[.str (ylt ev[k])]:=by
   rw [List.take_succ_eq_append_getElem hlt,List.map_append,List.map_append]
   rfl
  rw [e0] at ih
  have hmo:(((ev.take k).map ylt).map D.str).length=k*1:=by rw [List.length_map,List.length_map,List.length_take];omega
  have hbo:=yqq g ev[k] hpe
  have hb:=yen ev[k]
  have hd:=yqc g ev[k].nu hpe.nu
  have hle:=hpe.ln
  have hsm:=yqr g (zxq ev[k]) hpe.ln
  have e1:(zjm ev[k].nu++[32])++zx5 ev[k]=zxq ev[k]:=by simp [zxq]
  have e2:ylt ev[k]=((zxq ev[k]++[35])++yjv (zxq ev[k]))++[10]:=by simp [ylt,zyh]
  have hs:=zy3 (zxq ev[k])
  rw [e2] at ih
  generalize ht:zxq ev[k]=t at *
  generalize zx5 ev[k]=b at *
  generalize ev[k]=e at *
  obtain⟨nu,ki,ns,vs,tx⟩:=e
  dsimp only at e1 hd hb
  change Fc E zjr [.d (.agg [DI nu,.str ki,.list ns.length (ns.map D.str),.list vs.length (vs.map DI),.str tx])] _ at hbo
  clear e0 e2
  repeat' ((conv=>whnf);first
  | refine Yz ?_
   | (rw [hwin])
   | (apply zah.of;assumption)
   | (refine In.enter (f:=zjt) g.lim rfl rfl ?_)
   | (refine zbd.mk (by simp only [zmy,List.length_append,List.length_cons,List.length_nil];omega) ?_;try rw [e1])
   | (refine zbd.mk ⟨rfl,rfl,rfl,rfl,rfl,rfl,by dsimp only;omega,by dsimp only;omega⟩ ?_)
   | (refine zak.to ih rfl rfl)
   | fail)
 ·obtain rfl:k=ev.length:=by omega
  clear ih
  rw [List.take_length]
  repeat' ((conv=>whnf);first
  | refine Yz ?_
   | (refine zbd.mk ⟨rfl,by omega⟩ ?_)
   | (apply zah.of;assumption)
   | (rw [if_pos ⟨rfl,rfl⟩])
   | (exact⟨rfl,rfl,rfl,rfl,rfl,rfl,trivial⟩)
   | fail)
theorem yq1:Ui E zbx [.d .nilp] [] (S []) []:=by
 refine⟨?_⟩
 refine In.enter (f:=zbx) g.lim rfl rfl ?_
 repeat' ((conv=>whnf);first
 | refine Yz ?_
  | (exact⟨rfl,trivial⟩)
  | fail)
theorem yo6 (text:List UInt8):Ui E zal [.d .nilp,S text] [] (Aqv ([],19)) []:=by
 refine⟨?_⟩
 refine In.enter (f:=zal) g.lim rfl rfl ?_
 repeat' ((conv=>whnf);first
 | refine Yz ?_
  | (exact⟨rfl,trivial⟩)
  | fail)
theorem ysf:Ui E zcd [.d .nilp] [] (LE []) []:=by
 refine⟨?_⟩
 refine In.enter (f:=zcd) g.lim rfl rfl ?_
 repeat' ((conv=>whnf);first
 | refine Yz ?_
  | (refine zbd.mk ⟨rfl,by omega⟩ ?_)
  | (rw [if_pos ⟨rfl,rfl⟩])
  | (exact⟨rfl,trivial⟩)
  | fail)
theorem ymh (ev:List Evt) (r:Rgs) (hev:ev.length<=1000) (hp:∀e∈ev,PrE e):Ui E zcd [.ptr ⟨0,0,0⟩ 0 0] (mR zaa ev r) (LE ev) (mR zaa ev r):=by
 refine⟨?_⟩
 have hme:(ev.flatMap Evt.cells).length=ev.length*5:=zag Evt.cells 5 evw ev
 refine In.enter (f:=zcd) g.lim rfl rfl ?_
 repeat' ((conv=>whnf);first
 | refine Yz ?_
  | (refine In.enter (f:=zid) g.lim rfl rfl ?_)
  | (refine zrv.fnp (by decide) (by decide) rfl rfl ?_)
  | (refine In.enter (f:=zfb) g.lim rfl rfl ?_)
  | fail)
 refine zak.to (zak.up g (fun k=>[(0,.yld ⟨1,16,0⟩),(9,.ref ⟨0,0,1⟩ 0 ev.length ev.length),(10,I ev.length),(11,I k)])
  (fun k=>mR zaa ev r++[(⟨1,2,0⟩,.row false zac 5 0 []),(⟨1,3,0⟩,.row false zac 5 k ((ev.take k).flatMap Evt.cells)),(⟨1,3,1⟩,.cells zh4 [.ref ⟨1,3,0⟩ 0 k k]),(⟨1,8,0⟩,.cells zlk [.ptr ⟨0,0,0⟩ 0 0]),
   (⟨1,16,0⟩,.loop [(2,.ref ⟨1,2,0⟩ 0 0 0),(6,B false),(3,.ptr ⟨1,3,1⟩ 0 0),(8,.fn zfb [] [.ptr ⟨1,8,0⟩ 0 0])] [9] zih zii 1 false false none)]) ev.length (fun k hk ih=> ?_) 0 (Nat.zero_le _)) rfl rfl
 by_cases hlt:k<ev.length
 ·have hwin:win (ev.flatMap Evt.cells) ((0+((k:Nat):Int).toNat)*5) 5=ev[k].cells:=by
   rw [Nat.zero_add,Int.toNat_natCast]
   exact zb9 Evt.cells 5 evw ev k hlt
  have ih:=ih hlt
  have hpe:=hp _ (List.getElem_mem hlt)
  have e0:(ev.take (k+1)).flatMap Evt.cells=(ev.take k).flatMap Evt.cells++(ev[k].cells++[]):=by
   rw [List.take_succ_eq_append_getElem hlt,List.flatMap_append]
   rfl
  rw [e0] at ih
  have hmo:((ev.take k).flatMap Evt.cells).length=k*5:=by rw [zag Evt.cells 5 evw,List.length_take];omega
  have hc1:=zmi g ev[k].ns (List.length_pos_iff.1 hpe.ns.1) (by have:=hpe.ns;omega)
  have hc2:=zmh g ev[k].vs (List.length_pos_iff.1 hpe.vs.1) (by have:=hpe.vs;omega)
  generalize ev[k]=e at *
  obtain⟨nu,ki,ns,vs,tx⟩:=e
  simp only [Evt.cells,List.append_nil] at ih
  clear e0 hpe
  repeat' ((conv=>whnf);first
  | refine Yz ?_
   | (rw [hwin])
   | (apply zah.of;assumption)
   | (refine Rnd.enter g.lim ?_)
   | (refine zbd.mk ⟨rfl,rfl,rfl,rfl,rfl,rfl,by dsimp only;omega,by dsimp only;omega⟩ ?_)
   | (refine zak.to ih rfl rfl)
   | fail)
 ·obtain rfl:k=ev.length:=by omega
  clear ih
  rw [List.take_length]
  repeat' ((conv=>whnf);first
  | refine Yz ?_
   | (refine zbd.mk ⟨rfl,by omega⟩ ?_)
   | (rw [if_pos ⟨rfl,rfl⟩])
   | (exact⟨rfl,rfl,rfl,rfl,rfl,rfl,trivial⟩)
   | fail)
end
abbrev mSs (lv sl:Nat) (ev:List Evt) (r:Rgs):Mem:=[(⟨lv,sl,0⟩,.cells zaa [.ref ⟨lv,sl,1⟩ 0 ev.length ev.length,I r.kn,.ref ⟨lv,sl,2⟩ 0 r.es.length r.es.length,.ref ⟨lv,sl,3⟩ 0 r.rs.length r.rs.length,.ref ⟨lv,sl,4⟩ 0 r.cs.length r.cs.length]),
 (⟨lv,sl,1⟩,.row false zac 5 ev.length (ev.flatMap Evt.cells)),(⟨lv,sl,2⟩,.row false zae 8 r.es.length (r.es.flatMap Ent.cells)),(⟨lv,sl,3⟩,.row false zam 2 r.rs.length (r.rs.flatMap Rmv.cells)),(⟨lv,sl,4⟩,.row true zai 5 r.cs.length (r.cs.flatMap Cpl.cells))]
section
variable {E : Oracle} (g : Good E)
include g
theorem zb8.open {s:List UInt8} {l:List Evt} {i e:Int} (hr:Fc E zc6 [S s] (.tup [LE l,I i,I e])) (he:e=0\/e=28) (hl:l.length<=1000) (hb:∀e∈l,e.ns.length<=1000000/\e.vs.length<=1000000) (hz:erL l=0) {cx:Cx} {slot:Nat} {m:Mem} {K:V->Mem->Prop} (hf:Go.Evl.freeK cx.lv slot m=0)
  (k:K (.tup [.ptr ⟨cx.lv,slot,0⟩ 0 0,I 0]) (m++mSs cx.lv slot l (rgL l))):zb8 E zdn [S s] cx slot m K:=by
 have h:In E 0 zdn [S s] [] fun v m'=>v= .tup [.ptr ⟨0,35,0⟩ 0 0,I 0]/\m'=mS 0 24 l (rgL l)++[(⟨0,35,0⟩,.cells zaa [.ref ⟨0,24,1⟩ 0 l.length l.length,I (rgL l).kn,.ref ⟨0,24,2⟩ 0 (rgL l).es.length (rgL l).es.length,.ref ⟨0,24,3⟩ 0 (rgL l).rs.length (rgL l).rs.length,.ref ⟨0,24,4⟩ 0 (rgL l).cs.length (rgL l).cs.length])]:=by
  have hp:=@zb8.replay E g l hl hb
  refine In.enter (f:=zdn) g.lim rfl rfl ?_
  rcases he with rfl|rfl
  all_goals repeat' ((conv=>whnf);first
  | refine Yz ?_
   | (apply zah.of;assumption)
   | (refine hp rfl hz ?_)
   | (refine Cmp.ff (fun h=>h rfl) ?_)
   | (exact⟨rfl,rfl⟩)
   | fail)
 obtain⟨v,m',h1,rfl,rfl⟩:=h.got
 refine⟨_,_,(_,m++mSs cx.lv slot l (rgL l)),h1,?_,k⟩
 unfold Evl.settle
 rw [hf]
 rfl
theorem zb8.openNo {s:List UInt8} {l:List Evt} {i e:Int} (hr:Fc E zc6 [S s] (.tup [LE l,I i,I e])) (he:e≠0/\e≠28) {cx:Cx} {slot:Nat} {m:Mem} {K:V->Mem->Prop}
  (k:K (.tup [.d .nilp,I e]) (m++[])):zb8 E zdn [S s] cx slot m K:=by
 have h:In E 0 zdn [S s] [] fun v _=>v= .tup [.d .nilp,I e]/\True:=by
  refine In.enter (f:=zdn) g.lim rfl rfl ?_
  repeat' ((conv=>whnf);first
  | refine Yz ?_
   | (apply zah.of;assumption)
   | (refine Cmp.tt he.1 ?_)
   | (refine Cmp.tt he.2 ?_)
   | (exact⟨rfl,trivial⟩)
   | fail)
 obtain⟨v,m',h1,rfl,_⟩:=h.got
 exact⟨_,_,(_,m++[]),h1,rfl,k⟩
theorem zb8.openBad {s:List UInt8} {l:List Evt} {i e:Int} (hr:Fc E zc6 [S s] (.tup [LE l,I i,I e])) (he:e=0\/e=28) (hl:l.length<=1000) (hb:∀e∈l,e.ns.length<=1000000/\e.vs.length<=1000000) (hz:erL l≠0) {cx:Cx} {slot:Nat} {m:Mem} {K:V->Mem->Prop}
  (k:K (.tup [.d .nilp,I (erL l)]) (m++[])):zb8 E zdn [S s] cx slot m K:=by
 have h:In E 0 zdn [S s] [] fun v _=>v= .tup [.d .nilp,I (erL l)]/\True:=by
  have hp:=@zb8.replayNo E g l hl hb
  have e1:(zeh rg0 0 l).2.2=erL l:=rfl
  rw [e1] at hp
  generalize erL l=x at *
  refine In.enter (f:=zdn) g.lim rfl rfl ?_
  rcases he with rfl|rfl
  all_goals repeat' ((conv=>whnf);first
  | refine Yz ?_
   | (apply zah.of;assumption)
   | (refine hp hz ?_)
   | (refine Cmp.tt hz ?_)
   | (refine Cmp.ff (fun h=>h rfl) ?_)
   | (exact⟨rfl,trivial⟩)
   | fail)
 obtain⟨v,m',h1,rfl,_⟩:=h.got
 exact⟨_,_,(_,m++[]),h1,rfl,k⟩
end
structure RSt where
 l:List Evt
 f:Nat
 i:Nat
structure RSt.Inv (s:List UInt8) (st:RSt):Prop where
 le:st.f<=st.i/\st.i<=s.length
 ll:st.l.length<=st.f
 no:∀j,st.f<=j->j<st.i->s.getD j 0≠10
 res:z9b st.l st.f (pcs (s.drop st.f))=z9b [] 0 (pcs s)
theorem ymk {s:List UInt8} {f i:Nat} (hf:f<=i) (hi:i<s.length) (h:s.getD i 0=10) (hn:∀j,f<=j->j<i->s.getD j 0≠10):
  s.drop f=win s f (i-f)++10::s.drop (i+1)/\(10:UInt8)∉win s f (i-f)/\(win s f (i-f)).length=i-f:=by
 have hd:=z0j (s:=s) hf
 have hcons:s.drop i=10::s.drop (i+1):=by
  rw [List.drop_eq_getElem_cons hi]
  have:s[i]=10:=by simpa [List.getD,hi] using h
  rw [this]
 refine⟨by rw [hd,hcons],fun hm=> ?_,?_⟩
 ·obtain⟨j,j1,j2,_,j4⟩:=yhp hm
  exact hn j j1 j2 j4
 ·unfold win
  rw [List.length_take,List.length_drop];omega
section
variable {E : Oracle} (g : Good E)
include g
theorem yin (s:List UInt8):Fc E zju [S s] (RcV (yf3 s)):=by
 refine g.fn rfl rfl ?_
 unfold yf3
 by_cases hl0:1000000<s.length
 ·rw [if_pos hl0]
  repeat' ((conv=>whnf);first
  | refine Yz ?_
   | (refine Ret.mk rfl)
   | fail)
 rw [if_neg hl0]
 repeat' ((conv=>whnf);first
 | refine Yz ?_
  | fail)
 refine zak.to (zak.by (σ:=RSt) g (RSt.Inv s)
  (fun x=>[(0,S s),(5,.ref ⟨0,5,0⟩ 0 x.l.length x.l.length),(6,I x.f),(7,I x.i)])
  (fun x=>[(⟨0,2,0⟩,.row false zac 5 0 []),(⟨0,5,0⟩,.row false zac 5 x.l.length (x.l.flatMap Evt.cells))])
  (fun x=>s.length-x.i) ?_ ⟨[],0,0⟩ ⟨⟨Nat.le_refl _,Nat.zero_le _⟩,Nat.le_refl _,fun j _ h=>absurd h (Nat.not_lt_zero _),rfl⟩) rfl rfl
 rintro⟨l,f,i⟩ ⟨⟨h1,h1'⟩,h2,h3,h4⟩ ih
 simp only at h1 h1' h2 h3 h4 ih
 dsimp only
 have hml:(l.flatMap Evt.cells).length=l.length*5:=zag Evt.cells 5 evw l
 have hb:=zmk (s.getD i 0)
 by_cases hlt:i<s.length
 ·by_cases hc:s.getD i 0=10
  ·have hc':(s.getD i 0).toNat=10:=by rw [hc];rfl
   obtain⟨hd,hn,hwl⟩:=ymk h1 hlt hc h3
   rw [hd,zvf hn,hwl] at h4
   have hre:=ylr g (win s f (i-f)) (by omega)
   by_cases hz:z6v (win s f (i-f)) l.length=0
   ·obtain⟨z1,z2⟩:=ybr hz
    rw [if_neg (fun h=>h hz)] at h4
    rw [z1] at hre
    have ih:=ih ⟨l++[(ztw (win s f (i-f))).1],i+1,i+1⟩ ⟨⟨Nat.le_refl _,by dsimp only;omega⟩,by simp only [List.length_append,List.length_cons,List.length_nil];omega,fun j h h'=>by dsimp only at h h';omega,by
     dsimp only
     rw [<-h4,show f+(i-f+1)=i+1 by omega]⟩ (by dsimp only;omega)
    simp only [List.length_append,List.length_cons,List.length_nil,List.flatMap_append,List.flatMap_cons,List.flatMap_nil] at ih
    generalize (ztw (win s f (i-f))).1=e at *
    obtain⟨nu,ki,ns,vs,tx⟩:=e
    dsimp only at z2
    simp only [Evt.cells] at ih
    repeat' ((conv=>whnf);first
    | refine Yz ?_
     | (refine zg2.at i (by omega) hlt ?_)
     | (refine za9.mk (by omega) ?_)
     | (apply zah.of;assumption)
     | (refine zbd.mk (by simp only [List.length_cons,List.length_nil];omega) ?_)
     | (refine zbd.mk ⟨rfl,by decide⟩ ?_)
     | (refine zak.to ih rfl rfl)
     | fail)
   ·rw [if_pos hz] at h4
    rw [<-h4]
    generalize hrb:z6v (win s f (i-f)) l.length=x at *
    unfold z6v at hrb
    generalize ztw (win s f (i-f))=q at *
    obtain⟨⟨nu,ki,ns,vs,tx⟩,y⟩:=q
    dsimp only at hrb hre
    by_cases hy:y=0
    ·subst hy
     rw [if_neg (fun h=>h rfl)] at hrb
     have hnu:nu≠l.length+1:=fun e=>by
      rw [if_neg (fun h=>h e)] at hrb
      exact hz hrb.symm
     rw [if_pos hnu] at hrb
     subst hrb
     repeat' ((conv=>whnf);first
     | refine Yz ?_
      | (refine zg2.at i (by omega) hlt ?_)
      | (refine za9.mk (by omega) ?_)
      | (apply zah.of;assumption)
      | (refine zbd.mk ⟨rfl,by decide⟩ ?_)
      | (refine Ret.mk ?_)
      | fail)
     rw [if_pos ⟨rfl,rfl⟩]
    ·rw [if_pos hy] at hrb
     subst hrb
     repeat' ((conv=>whnf);first
     | refine Yz ?_
      | (refine zg2.at i (by omega) hlt ?_)
      | (refine za9.mk (by omega) ?_)
      | (apply zah.of;assumption)
      | (refine Cmp.ff hy ?_)
      | (refine zbd.mk ⟨rfl,by decide⟩ ?_)
      | (refine Ret.mk ?_)
      | fail)
     rw [if_pos ⟨rfl,rfl⟩]
  ·have hc':(s.getD i 0).toNat≠10:=fun e=>hc (UInt8.toNat_inj.1 e)
   have ih:=ih ⟨l,f,i+1⟩ ⟨⟨by dsimp only;omega,by dsimp only;omega⟩,h2,fun j j1 j2=>by
    dsimp only at j1 j2
    by_cases e:j=i
    ·subst e;exact hc
    ·exact h3 j j1 (by omega),h4⟩ (by dsimp only;omega)
   repeat' ((conv=>whnf);first
   | refine Yz ?_
    | (refine zg2.at i (by omega) hlt ?_)
    | (refine zak.to ih rfl rfl)
    | fail)
 ·obtain rfl:i=s.length:=by omega
  by_cases hf:f<s.length
  ·have hne:s.drop f≠[]:=fun e=>by
    have:=congrArg List.length e
    rw [List.length_drop,List.length_nil] at this
    omega
   have hn:(10:UInt8)∉s.drop f:=fun hm=>by
    obtain⟨j,hj,e⟩:=List.mem_iff_getElem.1 hm
    rw [List.length_drop] at hj
    refine h3 (f+j) (by omega) (by omega) ?_
    rw [List.getElem_drop] at e
    simp [List.getD,show f+j<s.length by omega,e]
   rw [zvg hne hn] at h4
   rw [<-h4]
   repeat' ((conv=>whnf);first
   | refine Yz ?_
    | (refine Ret.mk ?_)
    | fail)
   rw [if_pos ⟨rfl,rfl⟩]
  ·obtain rfl:f=s.length:=by omega
   rw [List.drop_length,z6p,z9b] at h4
   rw [<-h4]
   repeat' ((conv=>whnf);first
   | refine Yz ?_
    | (refine Ret.mk ?_)
    | fail)
   rw [if_pos ⟨rfl,rfl⟩]
end
section
variable {E : Oracle} (g : Good E)
include g
theorem yot (s:List UInt8):In E 0 zhr [S s] [] fun v m'=>v= .fn zd4 [] [.ptr ⟨0,1,0⟩ 0 0]/\m'=[(⟨0,1,0⟩,.cells zab [S s])]:=by
 refine In.enter (f:=zhr) g.lim rfl rfl ?_
 repeat' ((conv=>whnf);first
 | refine Yz ?_
  | (exact⟨rfl,rfl⟩))
theorem zb8.lines {s:List UInt8} {cx:Cx} {slot:Nat} {m:Mem} {K:V->Mem->Prop} (hf:Go.Evl.freeK cx.lv slot m=0) (h:K (.fn zd4 [] [.ptr ⟨cx.lv,slot,0⟩ 0 0]) (m++[(⟨cx.lv,slot,0⟩,.cells zab [S s])])):zb8 E zhr [S s] cx slot m K:=by
 obtain⟨v,m',h1,rfl,rfl⟩:=(yot g s).got
 refine⟨_,_,(.fn zd4 [] [.ptr ⟨cx.lv,slot,0⟩ 0 0],m++[(⟨cx.lv,slot,0⟩,.cells zab [S s])]),h1,?_,h⟩
 unfold Go.Evl.settle
 rw [hf]
 rfl
theorem yi7 (s0:List UInt8):Fc E zc6 [S s0] (RcV (yf3 s0)):=by
 refine g.fn rfl rfl ?_
 unfold yf3
 by_cases hl0:1000000<s0.length
 ·rw [if_pos hl0]
  repeat' ((conv=>whnf);first
  | refine Yz ?_
   | (refine Ret.mk rfl)
   | fail)
 rw [if_neg hl0]
 repeat' ((conv=>whnf);first
 | refine Yz ?_
  | (refine zb8.lines g rfl ?_)
  | (refine In.enter (f:=zd4) g.lim rfl rfl ?_)
  | fail)
 refine zak.to (zak.by (σ:=List Evt×Nat×List UInt8) g (fun x=>x.1.length<=x.2.1/\x.2.1+x.2.2.length<=s0.length/\z9b x.1 x.2.1 (pcs x.2.2)=z9b [] 0 (pcs s0))
  (fun _=>[(0,.yld ⟨0,50,0⟩),(1,.ptr ⟨0,16,0⟩ 0 0)])
  (fun x=>[(⟨0,2,0⟩,.row false zac 5 0 []),(⟨0,2,1⟩,.cells zh4 [.ref ⟨0,2,0⟩ 0 0 0]),(⟨0,3,0⟩,.cells zbq [I 0]),(⟨0,4,0⟩,.cells zxr [I 0]),(⟨0,5,0⟩,.row false zac 5 x.1.length (x.1.flatMap Evt.cells)),(⟨0,5,1⟩,.cells zh4 [.ref ⟨0,5,0⟩ 0 x.1.length x.1.length]),(⟨0,6,0⟩,.cells zbq [I x.2.1]),(⟨0,16,0⟩,.cells zab [S x.2.2]),
   (⟨0,50,0⟩,.loop [(2,.ptr ⟨0,2,1⟩ 0 0),(3,.ptr ⟨0,3,0⟩ 0 0),(4,.ptr ⟨0,4,0⟩ 0 0),(14,B false),(5,.ptr ⟨0,5,1⟩ 0 0),(6,.ptr ⟨0,6,0⟩ 0 0),(16,.fn zd4 [] [.ptr ⟨0,16,0⟩ 0 0])] [17] zno znp 0 false false none)])
  (fun x=>x.2.2.length) ?_ ([],0,s0) ⟨Nat.le_refl _,by simp,rfl⟩) rfl rfl
 rintro⟨l,i,s⟩ ⟨h1,h2,h3⟩ ih
 simp only at h1 h2 h3 ih
 dsimp only
 have hml:(l.flatMap Evt.cells).length=l.length*5:=zag Evt.cells 5 evw l
 by_cases hs:s=[]
 ·subst hs
  rw [z6p,z9b] at h3
  rw [<-h3]
  repeat' ((conv=>whnf);first
  | refine Yz ?_
   | (refine zbd.mk ⟨rfl,by decide⟩ ?_)
   | (refine Ret.mk ?_)
   | fail)
  rw [if_pos ⟨rfl,rfl⟩]
 ·rcases z1g s hs with⟨hn,hp⟩|⟨a,r,hn,rfl,hp⟩
  ·have hw:zll s=false:=decide_eq_false fun e=>by
    obtain⟨t,e⟩:=List.getLast?_eq_some_iff.1 e
    exact hn (by rw [e];simp)
   have he:yal s=s:=by unfold yal;rw [hw];rfl
   rw [zvg hs hn] at h3
   rw [<-h3]
   have hx:=z9i g s
   rw [zxi s hn] at hx
   have hcut:=yi4 g s (by omega)
   rw [hw,he] at hcut
   have hpos:s.length≠0:=fun e=>hs (List.length_eq_zero_iff.1 e)
   repeat' ((conv=>whnf);first
   | refine Yz ?_
    | (refine Rnd.enter g.lim ?_)
    | (refine za9.at 0 (a.length+1) (by omega) (by omega) (by omega) ?_<;>(try dsimp only)<;>(rw [z7c]))
    | (refine za9.at (a.length+1) (a++10::r).length (by omega) (by omega) (by omega) ?_<;>(try dsimp only)<;>(rw [z7d]))
    | (refine za9.at 0 s.length (by omega) (by omega) (by omega) ?_<;>(try dsimp only)<;>(rw [yce]))
    | (apply zah.of;assumption)
    | (refine zbd.mk ⟨rfl,by decide⟩ ?_)
    | (refine Ret.mk ?_)
    | fail)
   rw [if_pos ⟨rfl,rfl⟩]
  ·have hlen:(a++10::r).length=a.length+(r.length+1):=by simp
   have hlen1:(a++[10]).length=a.length+1:=by simp
   have hx:=z9i g (a++10::r)
   rw [zxh a r hn] at hx
   have hcut:=yi4 g (a++[10]) (by simp;omega)
   rw [(zy6 _).1,(zy6 _).2] at hcut
   rw [zvf hn] at h3
   have hre:=yfh g a (by omega) l.length (by omega)
   by_cases hz:z6v a l.length=0
   ·rw [if_neg (fun h=>h hz)] at h3
    rw [hz] at hre
    have ih:=ih (l++[(ztw a).1],i+(a.length+1),r) ⟨by simp only [List.length_append,List.length_cons,List.length_nil];omega,by dsimp only;omega,h3⟩ (by dsimp only;omega)
    simp only [List.length_append,List.length_cons,List.length_nil,List.flatMap_append,List.flatMap_cons,List.flatMap_nil] at ih
    have hie:((i+(a.length+1):Nat):Int)=(i:Int)+((a++[10]).length:Int):=by omega
    rw [hie] at ih
    generalize (ztw a).1=e at *
    obtain⟨nu,ki,ns,vs,tx⟩:=e
    simp only [Evt.cells] at ih
    repeat' ((conv=>whnf);first
    | refine Yz ?_
     | (refine Rnd.enter g.lim ?_)
     | (refine za9.at 0 (a.length+1) (by omega) (by omega) (by omega) ?_<;>(try dsimp only)<;>(rw [z7c]))
     | (refine za9.at (a.length+1) (a++10::r).length (by omega) (by omega) (by omega) ?_<;>(try dsimp only)<;>(rw [z7d]))
     | (refine za9.at 0 s.length (by omega) (by omega) (by omega) ?_<;>(try dsimp only)<;>(rw [yce]))
     | (apply zah.of;assumption)
     | (refine zbd.mk (by simp only [List.length_cons,List.length_nil];omega) ?_)
     | (refine zbd.mk ⟨rfl,by decide⟩ ?_)
     | (refine zak.to ih rfl rfl)
     | fail)
   ·rw [if_pos hz] at h3
    rw [<-h3]
    generalize (ztw a).1=e at *
    obtain⟨nu,ki,ns,vs,tx⟩:=e
    generalize z6v a l.length=x at *
    repeat' ((conv=>whnf);first
    | refine Yz ?_
     | (refine Rnd.enter g.lim ?_)
     | (refine za9.at 0 (a.length+1) (by omega) (by omega) (by omega) ?_<;>(try dsimp only)<;>(rw [z7c]))
     | (refine za9.at (a.length+1) (a++10::r).length (by omega) (by omega) (by omega) ?_<;>(try dsimp only)<;>(rw [z7d]))
     | (refine za9.at 0 s.length (by omega) (by omega) (by omega) ?_<;>(try dsimp only)<;>(rw [yce]))
     | (apply zah.of;assumption)
     | (refine Cmp.ff hz ?_)
     | (refine zbd.mk ⟨rfl,by decide⟩ ?_)
     | (refine Ret.mk ?_)
     | fail)
    rw [if_pos ⟨rfl,rfl⟩]
end
section
variable {E : Oracle} (g : Good E)
include g
theorem yov:Fc E zhy [] (B true):=by
 refine g.fn rfl rfl ?_
 repeat' ((conv=>whnf);first
 | refine Yz ?_
  | (apply zah.of;first |exact ao1 g|exact ao2 g|exact ao3 g|exact ao4 g|exact ao5 g|exact ao6 g|exact ao7 g|exact ao8 g|exact ao9 g|exact ysu g|exact ysv g|exact ysw g|exact ysx g|exact ysy g|exact ysz g|exact ys0 g|exact ys1 g|exact ys2 g|exact ys3 g|exact ys4 g|exact ys5 g|exact ys6 g|exact ys7 g|exact ys8 g|exact ys9 g|exact yta g|exact ytb g)
  | (refine is0 g ?_)
  | (first |refine is1 g ?_|refine is2 g ?_|refine is3 g ?_|refine is4 g ?_|refine is5 g ?_|refine is6 g ?_|refine is7 g ?_|refine is8 g ?_|refine is9 g ?_|refine yte g ?_|refine ytf g ?_)
  | (refine zbd.mk (by simp only [zmy,List.length_cons,List.length_nil];omega) ?_)
  | (refine zak.step g.lim ?_)
  | (exact Ret.mk rfl))
end
abbrev isS:List Evl.Id:=[⟨0,37,0⟩,⟨0,37,1⟩,⟨0,37,2⟩,⟨0,37,3⟩,⟨0,37,4⟩]
section
variable {E : Oracle} (g : Good E)
include g
theorem zyk (s:List UInt8) (ls:List (List UInt8)) (hs:s.length<=9223372036854775807) (hls:ls.length<=9223372036854775807) (hll:∀x∈ls,x.length<=9223372036854775807):Fc E zg9 [S s,Ws ls] (B true):=by
 have aw:=yov g
 by_cases h1:1500<s.length
 ·refine g.fn rfl rfl ?_
  repeat' ((conv=>whnf);first
  | refine Yz ?_
   | (apply zah.of;assumption)
   | (refine Ret.mk rfl)
   | fail)
 by_cases h2:8<ls.length
 ·refine g.fn rfl rfl ?_
  repeat' ((conv=>whnf);first
  | refine Yz ?_
   | (apply zah.of;assumption)
   | (refine Ret.mk rfl)
   | fail)
 have q1:=yin g s
 have q2:=yi7 g s
 have hln:=ylu (s:=s) (by omega)
 have hbk:=(yiv (s:=s) (by omega)).1
 generalize yf3 s=R at *
 obtain⟨l,i,x⟩:=R
 dsimp only at hln hbk
 change Fc E zju [S s] (.tup [LE l,I (i:Nat),I x]) at q1
 change Fc E zc6 [S s] (.tup [LE l,I (i:Nat),I x]) at q2
 have hbd:∀e∈l,e.ns.length<=1000000/\e.vs.length<=1000000:=fun e he=>by
  have:=(hbk e he).1.ns
  have:=(hbk e he).1.vs
  omega
 have hrp:=zn0 g l (by omega) hbd
 generalize (zeh rg0 0 l).2.1=at0 at hrp
 clear hbk
 by_cases hx:x=0\/x=28
 case neg=>
  have hx1:x≠0:=fun e=>hx (.inl e)
  have hx2:x≠28:=fun e=>hx (.inr e)
  have ho:=@zb8.openNo E g s l i x q2 ⟨hx1,hx2⟩
  refine g.fn rfl rfl ?_
  repeat' ((conv=>whnf);first
  | refine Yz ?_
   | (apply zah.of;assumption)
   | (refine ho ?_)
   | (refine Cmp.ff hx2 ?_)
   | (refine Cmp.ff hx1 ?_)
   | (refine Cmp.tt hx1 ?_)
   | (refine Cmp.tt rfl ?_)
   | (refine Ret.mk rfl)
   | fail)
 by_cases hz:erL l=0
 case neg=>
  have ho:=@zb8.openBad E g s l i x q2 hx (by omega) hbd hz
  generalize erL l=y at *
  refine g.fn rfl rfl ?_
  rcases hx with rfl|rfl
  all_goals repeat' ((conv=>whnf);first
  | refine Yz ?_
   | (apply zah.of;assumption)
   | (refine ho ?_)
   | (refine Cmp.tt hz ?_)
   | (refine Cmp.tt rfl ?_)
   | (refine Ret.mk rfl)
   | fail)
 have ho:=@zb8.open E g s l i x q2 hx (by omega) hbd hz
 rw [hz] at hrp
 generalize rgL l=r0 at hrp
 obtain⟨kn0,es0,rs0,cs0⟩:=r0
 change Fc E zcr [LE l] (.tup [.d (.agg [DI kn0,.list es0.length (es0.flatMap Ent.cells),.list rs0.length (rs0.flatMap Rmv.cells),.list cs0.length (cs0.flatMap Cpl.cells)]),I at0,I 0]) at hrp
 refine g.fn rfl rfl ?_
 rcases hx with rfl|rfl
 all_goals
  repeat' ((conv=>whnf);first
  | refine Yz ?_
   | (apply zah.of;assumption)
   | (refine ho rfl ?_)
   | (refine Cmp.ff (fun h=>h rfl) ?_)
   | fail)
  refine zak.to (zak.by (σ:=Nat×List Evt) g (fun u=>u.1<=ls.length/\u.2.length<=l.length+u.1/\erL u.2=0)
   (fun u=>[(5,LE u.2),(8,.ptr ⟨0,37,0⟩ 0 0),(68,Ws ls),(69,I ls.length),(70,I u.1)]) (fun u=>mSs 0 37 u.2 (rgL u.2)) (fun u=>ls.length-u.1) ?_ (0,l) ⟨Nat.zero_le _,Nat.le_refl _,hz⟩) rfl rfl
  rintro⟨k,ev⟩ ⟨a1,a2,a3⟩ ih
  dsimp only at a1 a2 a3 ih ⊢
  by_cases hlt:k<ls.length
  ·have hlen:=hll _ (List.getElem_mem hlt)
   have hpx:∀ {K:D->Prop},K (.str ls[k])->zfa (ls.map D.str) (((k:Nat):Int).toNat*1) K:=fun h=>zfa.ws k rfl hlt h
   by_cases h300:300<ls[k].length
   ·clear ih
    repeat' ((conv=>whnf);first
    | refine Yz ?_
     | (refine hpx ?_)
     | (apply zah.of;assumption)
     | (refine Ret.mk rfl)
     | fail)
   ·have hd:=ysh g ev (by omega) (ymy a3) a3 (ymz a3) ls[k] (by omega)
    have hu:=yo5 g ev (by omega) a3 (ymz a3) (by have:=yqp ev;omega) ls[k] (by omega)
    obtain⟨d1,d2⟩:=ypu (l:=ev) (by omega) a3 ls[k]
    generalize yfz ev ls[k]=o at *
    obtain⟨⟨tx,er⟩,ev'⟩:=o
    dsimp only at hd hu d1 d2
    have ih:=ih (k+1,ev') ⟨by dsimp only;omega,by dsimp only;omega,d1⟩ (by dsimp only;omega)
    dsimp only at ih
    generalize rgL ev=r at *
    generalize rgL ev'=r' at *
    repeat' ((conv=>whnf);first
    | refine Yz ?_
     | (refine hpx ?_)
     | (apply zah.of;assumption)
     | (refine zqp.ofI (r':= .tup [S tx,I er]) isS rfl rfl rfl rfl hu rfl rfl rfl rfl ?_)
     | (refine Cmp.ff (fun h=>h rfl) ?_)
     | (refine Cmp.tt rfl ?_)
     | (refine zak.to ih rfl rfl)
     | fail)
  ·obtain rfl:k=ls.length:=by omega
   clear ih
   have h5:=ymh g ev (rgL ev) (by omega) (ygu a3)
   have h6:=ysg g ev (rgL ev) (by omega) (ygu a3) (ygt (by omega) a3)
   have h7:=yr6 g ev (by omega) (ygu a3) (ygt (by omega) a3)
   have h8:=yol g ev (by omega) (ymy a3)
   generalize rgL ev=r at *
   generalize zww ev=lg at *
   repeat' ((conv=>whnf);first
   | refine Yz ?_
    | (apply zah.of;assumption)
    | (refine zqp.ofI (r':=Aqv ([],19)) [] rfl rfl rfl rfl (yo6 g _) rfl rfl rfl rfl ?_)
    | (refine zqp.ofI (r':=LE ev) isS rfl rfl rfl rfl h5 rfl rfl rfl rfl ?_)
    | (refine zqp.ofI (r':=S lg) isS rfl rfl rfl rfl h6 rfl rfl rfl rfl ?_)
    | (refine zqp.ofI (r':=LE []) [] rfl rfl rfl rfl (ysf g) rfl rfl rfl rfl ?_)
    | (refine zqp.ofI (r':=S []) [] rfl rfl rfl rfl (yq1 g) rfl rfl rfl rfl ?_)
    | (refine Cmp.tt rfl ?_)
    | (refine Ret.mk rfl)
    | fail)
end
theorem ykj {x:D} (h:zsm Tryz.prog 22 x):∃l:List (List UInt8),x= .list l.length (l.map D.str)/\l.length<=9223372036854775807/\∀s∈l,s.length<=9223372036854775807:=by
 obtain⟨m,cs,rfl,a,h'⟩:=yro Tryz.underlying22 h
 obtain⟨l,rfl,rfl,b⟩:=yc2 m h'
 exact⟨l,rfl,Nat.le_trans a (by decide),b⟩
theorem yf4 {E:Oracle} (g:Good E) {xs:List D} (h:z50 Tryz.prog [9,22] xs):Fc E zg9 (asV xs) (B true):=by
 obtain⟨x,y,rfl,h1,h2⟩:=yrq h
 obtain⟨s,rfl,hs⟩:=yrp Tryz.underlying9 h1
 obtain⟨l,rfl,hl,hll⟩:=ykj h2
 exact zyk g s l (Nat.le_trans hs (by decide)) hl hll
end Go.Proofs.YtnabmkmhbncidaaGreatDoor.Co
