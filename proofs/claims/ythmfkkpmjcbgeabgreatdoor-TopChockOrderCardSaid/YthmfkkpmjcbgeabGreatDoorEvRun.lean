
/-
 strings.IndexAny of "=<>" at every string: strings.IndexRune at the runes of a range over a string, the loop, and what is given of it.
-/
import Derived.Test.YthmfkkpmjcbgeabGreatDoorEvExt
import Derived.BigCall
import Derived.BigFrame
import Derived.BigGuard
import Derived.ChangeAlike
import Derived.Laws.RangeAny
import Derived.Laws.RangeString
import Derived.Laws.Runes
import Derived.Lib.Builder
import Derived.ProofKit
import Derived.RegionTactic
import Derived.Shelf.RegionOpenPlain
import Derived.Shelf.Strings.AsciiSet
import Derived.Shelf.Strings.IndexAny
import Derived.Shelf.Strings.IndexAnyAll
import Derived.Shelf.Strings.Runes
import Derived.WalkKit
import Derived.WalkMore
namespace Go.Proofs
open Go Go.Shelf Go.RowKit Go.Lib
variable {P : Program} {ρ : Ren}
theorem zkv {s:ByteArray} {j:Nat} {b:UInt8} (h:s.data.toList[j]? =some b):s.get! j=b:=by
 cases s with
 | mk d=>
  show d[j]! =b
  rw [Array.getElem?_toList] at h
  rw [getElem!_def,h]
structure yvl (s:ByteArray) (i:Nat) (d:Nat×Nat):Prop where
 lo:128<=d.1
 hi:d.1<=1114111
 va:d.1<55296\/57343<d.1
 k1:1<=d.2
 kn:i+d.2<=s.size
 by_:∀j b,i<=j->j<i+d.2->s.data.toList[j]? =some b->128<=b.toNat
theorem z8x (c:Nat):Utf8.valid (c:Int)=true->c<=1114111/\(c<55296\/57343<c):=by
 unfold Utf8.valid
 simp only [Bool.or_eq_true,Bool.and_eq_true,decide_eq_true_eq]
 omega
theorem ygc (s:ByteArray) (i:Nat) (h:i<s.size) (hx:128<=(s.get! i).toNat):yvl s i (Utf8.decode s i):=by
 have hb0:(s.get! (i+0)).toNat<256:=UInt8.toNat_lt _
 have one:yvl s i (65533,1):=⟨by decide,by decide,by decide,by decide,by show i+1<=_;omega,fun j b h1 h2 h3=>by
  have:j=i:=by simp only at h2;omega
  subst this
  rw [zkv h3] at hx;exact hx⟩
 unfold Utf8.decode
 dsimp only
 rw [if_neg (by rw [Nat.add_zero];omega)]
 split
 ·rename_i c1
  simp only [Bool.and_eq_true,beq_iff_eq,decide_eq_true_eq,Nat.add_zero] at c1
  split
  ·rename_i c2
   refine⟨c2,by simp only;omega,.inl (by simp only;omega),(show 1<=2 by decide),by show i+2<=_;omega,fun j b h1 h2 h3=> ?_⟩
   rcases (show j=i\/j=i+1 by simp only at h2;omega) with rfl|rfl
   ·rw [zkv h3] at hx;exact hx
   ·have:=c1.2.2;rw [zkv h3] at this;omega
  ·exact one
 ·split
  ·rename_i c1
   simp only [Bool.and_eq_true,beq_iff_eq,decide_eq_true_eq,Nat.add_zero] at c1
   split
   ·rename_i c2
    simp only [Bool.and_eq_true,decide_eq_true_eq] at c2
    have hv:=z8x _ c2.2
    refine⟨by simp only;omega,hv.1,hv.2,(show 1<=3 by decide),by show i+3<=_;omega,fun j b h1 h2 h3=> ?_⟩
    rcases (show j=i\/j=i+1\/j=i+2 by simp only at h2;omega) with rfl|rfl|rfl
    ·rw [zkv h3] at hx;exact hx
    ·have:=c1.1.2.2;rw [zkv h3] at this;omega
    ·have:=c1.2.2;rw [zkv h3] at this;omega
   ·exact one
  ·split
   ·rename_i c1
    simp only [Bool.and_eq_true,beq_iff_eq,decide_eq_true_eq,Nat.add_zero] at c1
    split
    ·rename_i c2
     simp only [Bool.and_eq_true,decide_eq_true_eq] at c2
     have hv:=z8x _ c2.2
     refine⟨by simp only;omega,hv.1,hv.2,(show 1<=4 by decide),by show i+4<=_;omega,fun j b h1 h2 h3=> ?_⟩
     rcases (show j=i\/j=i+1\/j=i+2\/j=i+3 by simp only at h2;omega) with rfl|rfl|rfl|rfl
     ·rw [zkv h3] at hx;exact hx
     ·have:=c1.1.1.2.2;rw [zkv h3] at this;omega
     ·have:=c1.1.2.2;rw [zkv h3] at this;omega
     ·have:=c1.2.2;rw [zkv h3] at this;omega
    ·exact one
   ·exact one
set_option maxHeartbeats 2000000 in
set_option maxRecDepth 1000000 in
theorem Any.utf8_ValidRune_yes (L:Lays.n152 P ρ) (r:Int) (w:World) (h0:0<=r) (h1:r<=1114111) (hv:r<55296\/57343<r):
  Calls P (ρ.f 119) #[.int .i32 r] w fun e w'=>e= .returned (.bool true)/\w'=w:=by
 have t4:=L.t4;have a4:=L.a4;have z4:=L.z4;have v4:=L.v4
 have t21:=L.t21;have a21:=L.a21;have z21:=L.z21;have v21:=L.v21
 by_cases hl:r<55296
 ·go_enter L.f119,Body.n119_ntmps ρ
  go_wp2
  go_ret
  exact⟨rfl,rfl⟩
 ·have hg:57343<r:=by omega
  go_enter L.f119,Body.n119_ntmps ρ
  go_wp2
  go_ret
  exact⟨rfl,rfl⟩
theorem yoh {r:Int} (h0:128<=r) (h1:r<=1114111) (hv:r<55296\/57343<r):∃(a b:UInt8),128<=b.toNat/\(Utf8.encode r=⟨#[a,b]⟩\/(∃c,Utf8.encode r=⟨#[c,a,b]⟩)\/∃c d,Utf8.encode r=⟨#[d,c,a,b]⟩):=by
 have hval:Utf8.valid r=true:=by
  unfold Utf8.valid
  simp only [Bool.or_eq_true,Bool.and_eq_true,decide_eq_true_eq]
  omega
 have hb:∀n:Nat,128<=(UInt8.ofNat (0x80+n%64)).toNat:=fun n=>by
  rw [UInt8.toNat_ofNat_of_lt' (by show _<256;omega)]
  omega
 unfold Utf8.encode
 simp only [hval,if_true]
 by_cases c1:r.toNat<0x80
 ·omega
 ·rw [if_neg c1]
  by_cases c2:r.toNat<0x800
  ·rw [if_pos c2]
   exact⟨_,_,hb _,.inl rfl⟩
  ·rw [if_neg c2]
   by_cases c3:r.toNat<0x10000
   ·rw [if_pos c3]
    exact⟨_,_,hb _,.inr (.inl ⟨_,rfl⟩)⟩
   ·rw [if_neg c3]
    exact⟨_,_,hb _,.inr (.inr ⟨_,_,rfl⟩)⟩
theorem zrg {l:List UInt8} {c:UInt8} (hc:128<=c.toNat) (h:∀x∈l,x.toNat<128):Lib.indexByte l c= -1:=by
 induction l with
 | nil=>rfl
 | cons x r ih=>
  have hx:=h x (List.mem_cons_self ..)
  have hne:¬x=c:=fun e=>by subst e;omega
  have ih:=ih fun y hy=>h y (List.mem_cons_of_mem _ hy)
  unfold Lib.indexByte
  rw [ih]
  simp [hne]
abbrev zvr:ByteArray:=⟨#[61,60,62]⟩
set_option maxHeartbeats 2000000 in
set_option maxRecDepth 1000000 in
theorem Any.strings_IndexRune_high (L:Lays.n152 P ρ) (r:Int) (w:World) (h0:128<=r) (h1:r<=1114111) (hv:r<55296\/57343<r) (hne:r≠65533):
  Calls P (ρ.f 152) #[.string zvr,.int .i32 r] w fun e w'=>e= .returned (.int .i64 (-1))/\Below w.heap.size w w':=by
 have mixed:=L.mixed
 have t3:=L.t3;have a3:=L.a3;have z3:=L.z3;have v3:=L.v3
 have t4:=L.t4;have a4:=L.a4;have z4:=L.z4;have v4:=L.v4
 have t5:=L.t5;have a5:=L.a5;have z5:=L.z5;have v5:=L.v5
 have t9:=L.t9;have a9:=L.a9;have z9:=L.z9;have v9:=L.v9
 have t21:=L.t21;have a21:=L.a21;have z21:=L.z21;have v21:=L.v21
 have e137:∀args w,(callFunc (ρ.f 137) args).run P w= .ok (.enter (ρ.f 137) args) w:=enters_of L.f137 (by kernel_rfl) rfl
 have e119:∀args w,(callFunc (ρ.f 119) args).run P w= .ok (.enter (ρ.f 119) args) w:=enters_of L.f119 (by kernel_rfl) rfl
 obtain⟨a,b,hb,he⟩:=yoh h0 h1 hv
 have hcv:(convert (ρ.t 21) (ρ.t 9) (.int .i32 r)).run P w= .ok (.string (Utf8.encode r)) w:=run_convert_int_string w _ _ _ _ (by rw [t21];rfl) t9
 rcases he with he|⟨c,he⟩|⟨c,d,he⟩
 ·rw [he] at hcv
  have hxb:¬((60:Int)=(b.toNat:Int)):=by omega
  go_enter L.f152,Body.n152_ntmps ρ
  go_wp2_with (go_at_fn (ρ.f 119);refine(Any.utf8_ValidRune_yes {L with} _ _ (by omega) h1 hv).mono ?_;rintro e w' ⟨rfl,hw⟩;rw [hw])
  go_step3
  go_wp2
  refine wp_loop_rounds 1 ?_
  rw [rounds_succ]
  go_wp2
  go_step3
  go_wp2
  go_region_o
  all_goals go_wp2
  ·have hsl:∀W:World,(Instr.slice (ρ.t 9) (.string zvr) (some (.int .i64 2)) none none).run P W= .ok (.string ⟨#[62]⟩) W:=fun W=>by rw [run_slice_string_from_if W _ _ _ _ t9,if_pos ⟨by decide,by decide⟩];rfl
   have hi62:indexByte [62] ((⟨#[a,b]⟩:ByteArray)[1]'(Nat.lt_succ_self 1))= -1:=zrg (l:=[62]) hb (by decide)
   go_region_with_o (go_at_fn (ρ.f 137);refine(Any.strings_IndexByte {L with} _ _ _).mono ?_;rintro e w' ⟨rfl,hw⟩;rw [hw])
   all_goals go_wp2
   all_goals first
    | (rw [Exit.noGoto_ret];go_simp;go_ret;exact⟨rfl,(Below.refl _ _).drew.drew⟩)
    | (exfalso;have hq2:(0:Int)<=indexByte [62] ((⟨#[a,b]⟩:ByteArray)[1]'(Nat.lt_succ_self 1)):=(by assumption);omega)
  ·rename_i q1 q2 q3
   exfalso
   have q:((zvr[1]'(by decide)).toNat:Int)=((⟨#[a,b]⟩:ByteArray)[1]'(Nat.lt_succ_self 1)).toNat:=by simpa using q1
   exact hxb q
 ·rw [he] at hcv
  have hxb:¬((62:Int)=(b.toNat:Int)):=by omega
  go_enter L.f152,Body.n152_ntmps ρ
  go_wp2_with (go_at_fn (ρ.f 119);refine(Any.utf8_ValidRune_yes {L with} _ _ (by omega) h1 hv).mono ?_;rintro e w' ⟨rfl,hw⟩;rw [hw])
  go_step3
  go_wp2
  refine wp_loop_rounds 1 ?_
  rw [rounds_succ]
  go_wp2
  go_step3
  go_wp2
  go_region_o
  all_goals go_wp2
  ·have hsl:∀W:World,(Instr.slice (ρ.t 9) (.string zvr) (some (.int .i64 3)) none none).run P W= .ok (.string ⟨#[]⟩) W:=fun W=>by rw [run_slice_string_from_if W _ _ _ _ t9,if_pos ⟨by decide,by decide⟩];rfl
   have hi62:indexByte [] ((⟨#[c,a,b]⟩:ByteArray)[2]'(Nat.lt_succ_self 2))= -1:=zrg (l:=[]) hb (by decide)
   go_region_with_o (go_at_fn (ρ.f 137);refine(Any.strings_IndexByte {L with} _ _ _).mono ?_;rintro e w' ⟨rfl,hw⟩;rw [hw])
   all_goals go_wp2
   all_goals first
    | (rw [Exit.noGoto_ret];go_simp;go_ret;exact⟨rfl,(Below.refl _ _).drew.drew⟩)
    | (exfalso;have hq2:(0:Int)<=indexByte [] ((⟨#[c,a,b]⟩:ByteArray)[2]'(Nat.lt_succ_self 2)):=(by assumption);omega)
  ·rename_i q1 q2 q3
   exfalso
   have q:((zvr[2]'(by decide)).toNat:Int)=((⟨#[c,a,b]⟩:ByteArray)[2]'(Nat.lt_succ_self 2)).toNat:=by simpa using q1
   exact hxb q
 ·rw [he] at hcv
  go_enter L.f152,Body.n152_ntmps ρ
  go_wp2_with (go_at_fn (ρ.f 119);refine(Any.utf8_ValidRune_yes {L with} _ _ (by omega) h1 hv).mono ?_;rintro e w' ⟨rfl,hw⟩;rw [hw])
  go_step3
  go_wp2
  refine wp_loop_rounds 1 ?_
  rw [rounds_succ]
  go_wp2
  rw [Exit.noGoto_ret]
  go_simp
  go_ret
  exact⟨rfl,Below.refl _ _⟩
set_option maxHeartbeats 2000000 in
set_option maxRecDepth 1000000 in
theorem Any.strings_IndexRune_err (L:Lays.n152 P ρ) (w:World):
  Calls P (ρ.f 152) #[.string zvr,.int .i32 65533] w fun e w'=>e= .returned (.int .i64 (-1))/\Below w.heap.size w w':=by
 have mixed:=L.mixed
 have t3:=L.t3;have a3:=L.a3;have z3:=L.z3;have v3:=L.v3
 have t4:=L.t4;have a4:=L.a4;have z4:=L.z4;have v4:=L.v4
 have t5:=L.t5;have a5:=L.a5;have z5:=L.z5;have v5:=L.v5
 have t9:=L.t9;have a9:=L.a9;have z9:=L.z9;have v9:=L.v9
 have t21:=L.t21;have a21:=L.a21;have z21:=L.z21;have v21:=L.v21
 go_enter L.f152,Body.n152_ntmps ρ
 have n0:=fun ty=>run_next_ascii (P:=P) w zvr 0 ty (by decide) (by decide)
 have n1:=fun ty=>run_next_ascii (P:=P) w zvr 1 ty (by decide) (by decide)
 have n2:=fun ty=>run_next_ascii (P:=P) w zvr 2 ty (by decide) (by decide)
 have ne:=fun ty=>run_next_end (P:=P) w zvr 3 ty (by decide)
 go_wp2
 refine wp_loop_rounds 4 ?_
 rw [rounds_succ]
 go_wp2
 rw [rounds_succ]
 go_wp2
 rw [rounds_succ]
 go_wp2
 rw [rounds_succ]
 go_wp2
 go_ret
 refine⟨rfl,rfl,rfl,rfl,?_,fun j hj=> ?_⟩
 ·show w.heap.size<=(w.alloc (.stringIter zvr 3)).heap.size
  generalize Obj.stringIter zvr 3=ob
  simp
 ·show (w.alloc (.stringIter zvr 3)).heap[j]? =w.heap[j]?
  exact Below.heap_alloc _ _ j hj
theorem Any.strings_IndexRune_sep (L:Lays.n152 P ρ) (r:Int) (w:World) (h0:128<=r) (h1:r<=1114111) (hv:r<55296\/57343<r):
  Calls P (ρ.f 152) #[.string zvr,.int .i32 r] w fun e w'=>e= .returned (.int .i64 (-1))/\Below w.heap.size w w':=by
 by_cases he:r=65533
 ·subst he;exact Any.strings_IndexRune_err L w
 ·exact Any.strings_IndexRune_high L r w h0 h1 hv he
theorem yhh {s:ByteArray} {i k:Nat} (h:Lib.NoAny s.data.toList zvr.data.toList i) (hb:∀j b,i<=j->j<i+k->s.data.toList[j]? =some b->128<=b.toNat):Lib.NoAny s.data.toList zvr.data.toList (i+k):=fun j b hj hjb=>by
 by_cases e:j<i
 ·exact h j b e hjb
 ·have:=hb j b (by omega) hj hjb
  simp only [List.contains_cons,List.contains_nil,Bool.or_false,Bool.or_eq_false_iff,beq_eq_false_iff_ne]
  refine⟨fun e=> ?_,fun e=> ?_,fun e=> ?_⟩
  all_goals
   subst e
   revert this
   decide
def zmw (w:World) (b:Nat) (s:ByteArray) (p:Nat):World:={w with heap:=w.heap.setIfInBounds b (.stringIter s p)}
theorem ybo {w:World} {b:Nat} {s:ByteArray} {pos:Nat} (hh:w.heap[b]? =some (.stringIter s pos)) (h:pos<s.size) (ty:TypeId):
  (Instr.next (.pointer (some ⟨b,0,none⟩)) true ty).run P w= .ok (.tuple #[.bool true,.int .i64 pos,.int .i32 (Utf8.decode s pos).1]) (zmw w b s (pos+(Utf8.decode s pos).2)):=by
 simp only [Instr.next,getObj,setObj,Sem.run_bind,Sem.run,hh,Result.andThen,h,if_true]
 simp [goInt,zmw]
theorem yij {w:World} {b:Nat} {s:ByteArray} {p:Nat} (h:b<w.heap.size):(zmw w b s p).heap[b]? =some (.stringIter s p):=by
 simp [zmw,h]
theorem zod (w:World) (b:Nat) (s:ByteArray) (p:Nat):Below b w (zmw w b s p):=⟨rfl,rfl,rfl,by simp [zmw],fun k hk=>by
 show (w.heap.setIfInBounds b (.stringIter s p))[k]? =_
 rw [Array.getElem?_setIfInBounds_ne (by omega)]⟩
theorem yg5 (w:World) (s:ByteArray) (p:Nat):Below w.heap.size w (w.iter s p):=⟨rfl,rfl,rfl,by
 show w.heap.size<=(w.alloc (.stringIter s p)).heap.size
 generalize Obj.stringIter s p=ob
 simp,fun j hj=>Below.heap_alloc _ _ j hj⟩
theorem z90 (w:World) (b:Nat) (s:ByteArray) (p:Nat):(zmw w b s p).heap.size=w.heap.size:=by
 simp [zmw]
theorem z8v {w:World} {b:Nat} {s:ByteArray} {pos:Nat} (hh:w.heap[b]? =some (.stringIter s pos)) (h:¬pos<s.size) (ty:TypeId):
  (Instr.next (.pointer (some ⟨b,0,none⟩)) true ty).run P w= .ok (.tuple #[.bool false]) w:=by
 simp [Instr.next,getObj,Sem.run,hh,h]
set_option maxHeartbeats 8000000 in
set_option maxRecDepth 1000000 in
theorem Any.strings_IndexAny_few (L:Lays.n153 P ρ) (s:ByteArray) (w:World) (h8:s.size<=8):
  Calls P (ρ.f 153) #[.string s,.string zvr] w fun e w'=>e= .returned (.int .i64 (Lib.indexAny s.data.toList zvr.data.toList))/\Below w.heap.size w w':=by
 have mixed:=L.mixed
 have h8z:decide ((8:Int)<(s.size:Int))=false:=decide_eq_false (by omega)
 have t3:=L.t3;have a3:=L.a3;have z3:=L.z3;have v3:=L.v3
 have t4:=L.t4;have a4:=L.a4;have z4:=L.z4;have v4:=L.v4
 have t5:=L.t5;have a5:=L.a5;have z5:=L.z5;have v5:=L.v5
 have t9:=L.t9;have a9:=L.a9;have z9:=L.z9;have v9:=L.v9
 have t21:=L.t21;have a21:=L.a21;have z21:=L.z21;have v21:=L.v21
 have e152:∀args w,(callFunc (ρ.f 152) args).run P w= .ok (.enter (ρ.f 152) args) w:=enters_of L.f152 (by kernel_rfl) rfl
 have e226:∀args w,(callFunc (ρ.f 226) args).run P w= .ok (.enter (ρ.f 226) args) w:=enters_of L.f226 (by kernel_rfl) rfl
 go_enter L.f153,Body.n153_ntmps ρ
 go_wp2_with (go_at_fn (ρ.f 226);refine(Any.strings_shouldUseASCIISet {L with} _ _).mono ?_;rintro e w' ⟨rfl,hw⟩;rw [hw,h8z])
 go_loopg [9,10] s.size (fun g _ _ wx=>∃i:Nat,i+g=s.size/\wx.heap[w.heap.size]? =some (.stringIter s i)/\Below w.heap.size w wx/\Lib.NoAny s.data.toList zvr.data.toList i)
 case atStart=>exact⟨0,by omega,World.iter_heap w s 0,yg5 w s 0,Lib.NoAny.zero _ _⟩
 case round=>
  obtain⟨i,hig,hit,hbl,hno⟩:=hrel
  have HN:Aside (Lib.NoAny s.data.toList zvr.data.toList i):=hno
  clear hno
  cases gk with
  | zero=>
   obtain rfl:i=s.size:=by omega
   have hnx:=fun ty=>z8v (P:=P) hit (Nat.lt_irrefl _) ty
   go_wp2
   go_ret
   exact⟨by rw [Lib.indexAny_none (by rw [<-Lib.size_eq];exact HN.out)];rfl,hbl⟩
  | succ g=>
   have hi:i<s.size:=by omega
   have hnx:=fun ty=>ybo (P:=P) hit hi ty
   obtain⟨x,hx⟩:∃x:UInt8,s[i]'hi=x:=⟨_,rfl⟩
   have hxl:s.data.toList[i]? =some x:=by rw [<-hx];exact Lib.data_getElem? s i hi
   have Hx:Aside (s.data.toList[i]? =some x):=hxl
   have hbs:=(Array.getElem?_eq_some_iff.1 hit).1
   have Hat:Aside (∀p,(zmw wr w.heap.size s p).heap[w.heap.size]? =some (.stringIter s p)):=fun p=>yij hbs
   by_cases hx128:x.toNat<128
   ·have hd:Utf8.decode s i=(x.toNat,1):=by rw [<-hx];exact decode_ascii s i hi (by rw [hx];exact hx128)
    rw [hd] at hnx
    dsimp only at hnx
    clear hxl hx hd
    have hcon:=Lib.contains_iff_indexByte zvr.data.toList x
    have hback:((x.toNat:Int)).toNat.toUInt8=x:=by simp
    cases hin:zvr.data.toList.contains x
    ·rw [hin] at hcon
     have hlt:¬((0:Int)<=Lib.indexByte zvr.data.toList x):=of_decide_eq_false hcon.symm
     clear hcon
     go_wp2_with (go_at_fn (ρ.f 152);refine(Any.strings_IndexRune_ascii {L with} _ _ _ (by omega) (by omega)).mono ?_;rintro e w' ⟨rfl,hw⟩;rw [hw,hback])
     go_roundg g
     case measure=>omega
     case rel=>exact⟨i+1,by omega,Hat.out (i+1),hbl.trans (zod _ _ _ _),HN.out.succ Hx.out hin⟩
    ·rw [hin] at hcon
     have hge:(0:Int)<=Lib.indexByte zvr.data.toList x:=of_decide_eq_true hcon.symm
     clear hcon
     go_wp2_with (go_at_fn (ρ.f 152);refine(Any.strings_IndexRune_ascii {L with} _ _ _ (by omega) (by omega)).mono ?_;rintro e w' ⟨rfl,hw⟩;rw [hw,hback])
     go_ret
     exact⟨by rw [Lib.indexAny_hit HN.out Hx.out hin];rfl,hbl.trans (zod _ _ _ _)⟩
   ·have hD:=ygc s i hi (by rw [zkv hxl];omega)
    obtain⟨r,k,hd⟩:∃r k,Utf8.decode s i=(r,k):=⟨_,_,rfl⟩
    rw [hd] at hD hnx
    dsimp only at hnx
    obtain⟨d1,d2,d3,d4,d5,d6⟩:=hD
    dsimp only at d1 d2 d3 d4 d5 d6
    have HD:Aside (∀j b,i<=j->j<i+k->s.data.toList[j]? =some b->128<=b.toNat):=d6
    clear hxl hx hd d6 hit
    go_wp2_with (go_at_fn (ρ.f 152);refine(Any.strings_IndexRune_sep {L with} _ _ (by omega) (by omega) (by omega)).mono ?_;rintro e w' ⟨rfl,hw⟩)
    go_roundg (s.size-(i+k))
    case measure=>omega
    case rel=>
     have hb2:w.heap.size<(zmw wr w.heap.size s (i+k)).heap.size:=by rw [z90];exact hbs
     exact⟨i+k,by omega,(hw.block _ hb2).trans (Hat.out (i+k)),(hbl.trans (zod _ _ _ _)).trans ⟨hw.os,hw.tape,hw.output,hw.size,fun j hj=>hw.block j (by omega)⟩,yhh HN.out HD.out⟩
theorem Any.strings_IndexAny_sep (L:Lays.n153 P ρ) (h116:(P.info? (ρ.t 116)).map (fun i=>(i.zero,i.size))=some (some (.agg (Array.replicate 256 (.bool false))),256)) (s:ByteArray) (w:World) (hs:s.size<4294967281):
  Calls P (ρ.f 153) #[.string s,.string zvr] w fun e w'=>e= .returned (.int .i64 (Lib.indexAny s.data.toList zvr.data.toList))/\Below w.heap.size w w':=by
 by_cases h8:s.size<=8
 ·exact Any.strings_IndexAny_few L s w h8
 ·refine(Any.strings_IndexAny_long L (zero_of_info h116).1 (zero_of_info h116).2 s zvr w (by decide) (by omega) hs (by decide) (fun j b hj=> ?_)).mono fun e w' ⟨h1,h2⟩=>⟨h1,?_⟩
  ·have:∀x∈zvr.data.toList,x.toNat<128:=by decide
   exact this b (List.mem_of_getElem? hj)
  ·rw [h2]
   exact((Below.refl _ _).alloc (Nat.le_refl _) _).alloc (by simp) _
end Go.Proofs
namespace Go.Evl
open Go.RowKit Go.Shelf Go.Proofs
section
variable {P : Program} {gl : Globs}
theorem given_indexAny {ρ:Go.Shelf.Ren} (L:Lays.n153 P ρ) (h116:(P.info? (ρ.t 116)).map (fun i=>(i.zero,i.size))=some (some (.agg (Array.replicate 256 (.bool false))),256)) {f:Nat} (hf:ρ.f 153=f) (he:Enters P f):GivenOk P gl f indexAnyX:=by
 refine⟨he,fun args m v m' h s hs hm xs hxs=> ?_⟩
 subst hf
 unfold indexAnyX at h
 split at h
 ·rename_i b c
  split at h
  ·rename_i hl
   obtain⟨h1,h2,hc⟩:=hl
   simp only [Option.some.injEq,Prod.mk.injEq] at h
   obtain⟨rfl,rfl⟩:=h
   obtain⟨x,ys,rfl,hx,y,zs,rfl,hy,hz⟩:=hxs
   simp only [VRt] at hz
   subst hz
   have hx:x= .string ⟨b.toArray⟩:=hx
   have hy:y= .string ⟨c.toArray⟩:=hy
   subst hx
   subst hy
   subst hm
   rw [callsIn_wide]
   rcases hc with rfl|⟨h3,h4⟩
   ·refine(Any.strings_IndexAny_sep L h116 ⟨b.toArray⟩ s.w (by show b.toArray.size<_;rw [List.size_toArray];omega)).mono fun e w' hh=> ?_
    obtain⟨rfl,hb⟩:=hh
    exact zf3 hs (fun s'=>rfl) hb
   ·have ascii:∀l:List UInt8,l.all (fun b=>decide (b.toNat<128))=true->∀(j:Nat) b,l[j]? =some b->b.toNat<128:=fun l h j b hj=>by
     have:=List.all_eq_true.1 h b (List.mem_of_getElem? hj)
     simpa using this
    refine(Any.strings_IndexAny_laid L h116 ⟨b.toArray⟩ ⟨c.toArray⟩ s.w (by show b.toArray.size<_;rw [List.size_toArray];omega) (by show c.toArray.size<_;rw [List.size_toArray];omega) (ascii b h3) (ascii c h4)).mono fun e w' hh=> ?_
    obtain⟨rfl,hb⟩:=hh
    exact zf3 hs (fun s'=>rfl) hb
  ·cases h
 ·cases h
end
end Go.Evl
