
/-
  Priority: the lots of claims, by the program and by the reference.
-/
import Derived.Test.YtcephlgejkngiaaGreatDoorPcCms
import Derived.Test.YtcephlgejkngiaaGreatDoorPcSrt
import Derived.Test.YtcephlgejkngiaaGreatDoorMsKey
import Derived.Test.YtcephlgejkngiaaGreatDoorSpInm
namespace Go.Proofs.YtcephlgejkngiaaGreatDoor.Co
open Go Go.Evl
set_option maxRecDepth 100000
def nmAt (l : List Clm) (i : Int) : List UInt8 := ((l[i.toNat]?).map (·.rq.nm)).getD []
def ltN (l : List Clm) (a b : Int) : Bool := strLess (nmAt l a) (nmAt l b)
theorem nmAt_get {l : List Clm} {i : Int} (h : i.toNat < l.length) : nmAt l i = l[i.toNat].rq.nm := by
  unfold nmAt
  rw [List.getElem?_eq_getElem h]
  rfl
theorem ltN_tot {l : List Clm} (h : (nmsM l).Nodup) : Tot l.length (ltN l) := by
  refine ⟨fun a => strLess_irr _, fun a b c _ _ _ => strLess_trans, fun a b ha hb hab => strLess_tot fun e => ?_⟩
  have h1 := idL_mem.1 ha
  have h2 := idL_mem.1 hb
  have ha' : a.toNat < l.length := by omega
  have hb' : b.toNat < l.length := by omega
  rw [nmAt_get ha', nmAt_get hb'] at e
  have hw := List.pairwise_iff_getElem.1 h
  have hla : a.toNat < (nmsM l).length := by simp [nmsM]; omega
  have hlb : b.toNat < (nmsM l).length := by simp [nmsM]; omega
  rcases Nat.lt_trichotomy a.toNat b.toNat with hh | hh | hh
  · exact hw _ _ hla hlb hh (by simp [nmsM, e])
  · omega
  · exact hw _ _ hlb hla hh (by simp [nmsM, e])
def lotL (key : Int) (l : List Clm) : List Int := (idL l.length).map fun i => (drawAll key l.length).getD (placeL l.length (ltN l) i) 0
theorem lotL_length (key : Int) (l : List Clm) : (lotL key l).length = l.length := by simp [lotL, idL_length]
theorem drawAll_length (key : Int) (n : Nat) : (drawAll key n).length = n := by
  unfold drawAll
  rw [drawL_length, idL_length]
structure Lts (n : Nat) (s d : List Int) (k : Nat) (T : List Int) : Prop where
  len : T.length = n
  got : ∀ j, j < k → T.getD (s.getD j 0).toNat 0 = d.getD j 0
theorem Lts.step {n : Nat} {lt : Int → Int → Bool} {s d T : List Int} {k : Nat} (t : Tot n lt) (hs : Srt n lt s) (h : Lts n s d k T) (hk : k < n) : Lts n s d (k + 1) (T.set (s.getD k 0).toNat (d.getD k 0)) := by
  have hl := hs.len
  have hg : ∀ j (hj : j < n), s.getD j 0 = s[j]'(by omega) := fun j hj => by simp [List.getD, show j < s.length by omega]
  have hm : ∀ j, j < n → 0 ≤ s.getD j 0 ∧ s.getD j 0 < n := fun j hj => by
    rw [hg j hj]
    exact idL_mem.1 (hs.mem (by omega))
  refine ⟨by rw [List.length_set]; exact h.len, fun j hj => ?_⟩
  have h1 := hm k hk
  have h2 := hm j (by omega)
  rw [getD_set _ _ _ _ (by rw [h.len]; omega)]
  by_cases e : j = k
  · subst e
    rw [if_pos rfl]
  · have hne : s.getD j 0 ≠ s.getD k 0 := fun hc => by
      rw [hg j (by omega), hg k hk] at hc
      have := List.pairwise_iff_getElem.1 hs.up j k (by omega) (by omega) (by omega)
      rw [hc, t.irr] at this
      cases this
    rw [if_neg (by omega)]
    exact h.got j (by omega)
theorem Lts.done {key : Int} {l : List Clm} {s T : List Int} (hn : (nmsM l).Nodup) (hs : Srt l.length (ltN l) s) (h : Lts l.length s (drawAll key l.length) l.length T) : T = lotL key l := by
  have t := ltN_tot hn
  refine List.ext_getElem (by rw [h.len, lotL_length]) fun i h1 h2 => ?_
  have hi : i < l.length := by rw [h.len] at h1; exact h1
  have hmem : (i : Int) ∈ idL l.length := idL_mem.2 (by omega)
  have hu := hs.uniq t hmem
  have hp := (List.getElem?_eq_some_iff.1 hu).1
  rw [hs.len] at hp
  have hg := h.got _ hp
  have e0 : s.getD (placeL l.length (ltN l) i) 0 = i := by rw [List.getD, hu]; rfl
  rw [e0, Int.toNat_natCast, List.getD, List.getElem?_eq_getElem h1] at hg
  refine Eq.trans hg ?_
  simp [lotL, idL]
section
variable {E : Oracle} (g : Good E)
include g
theorem CallS.indices {n : Nat} {cx : Cx} {slot : Nat} {m : Mem} {K : V → Mem → Prop} (hn : n ≤ 1000) (hf : Go.Evl.freeK cx.lv slot m = 0) (h : K (.ref ⟨cx.lv, slot, 0⟩ 0 n n) (m ++ [(⟨cx.lv, slot, 0⟩, .row true ty_int 1 n ((idL n).map DI))])) : CallS E n_priority_indices [I n] cx slot m K := by
  obtain ⟨v, m', h1, rfl, rfl⟩ := (in_indices g n hn).got
  refine ⟨_, _, (.ref ⟨cx.lv, slot, 0⟩ 0 n n, m ++ [(⟨cx.lv, slot, 0⟩, .row true ty_int 1 n ((idL n).map DI))]), h1, ?_, h⟩
  have := settle_row (cx := cx) (slot := slot) (lo := 0) (old := m) (o := ⟨0, 3, 0⟩) (off := 0) (l := n) (top := n) (m := [(⟨0, 2, 0⟩, .row true ty_int 1 0 []), (⟨0, 3, 0⟩, .row true ty_int 1 n ((idL n).map DI))]) (Nat.zero_le _) rfl
  rw [hf] at this
  exact this
theorem in_lots1 (l : List Clm) (x y : Int) (s : List Int) {K : V → Mem → Prop} (hx : x ∈ idL l.length) (hy : y ∈ idL l.length)
    (hK : ∀ c : Int, (c < 0 ↔ ltN l x y = true) → K (I c) [(⟨0, 3, 0⟩, .cells ty_Lpriority_Claim [LM l]), (⟨0, 4, 0⟩, .row true ty_int 1 0 []), (⟨0, 13, 0⟩, .row true ty_int 1 l.length (s.map DI))]) :
    In E 4 n_priority_lots_1 [I x, I y, .ptr ⟨0, 3, 0⟩ 0 0] [(⟨0, 3, 0⟩, .cells ty_Lpriority_Claim [LM l]), (⟨0, 4, 0⟩, .row true ty_int 1 0 []), (⟨0, 13, 0⟩, .row true ty_int 1 l.length (s.map DI))] K := by
  have h1 := idL_mem.1 hx
  have h2 := idL_mem.1 hy
  have hx' : x.toNat < l.length := by omega
  have hy' : y.toNat < l.length := by omega
  have hc := s_CmpS g l[x.toNat].rq.nm l[y.toNat].rq.nm
  have hk := hK (cmpS l[x.toNat].rq.nm l[y.toNat].rq.nm) (by unfold ltN; rw [nmAt_get hx', nmAt_get hy']; exact cmpS_lt _ _)
  refine In.enter g.lim rfl code_priority_lots_1 ?_
  repeat' ((conv => whnf); first
  | refine Br.tt ?_ | refine Br.ff ?_ | refine Need.w ?_ | refine Wr.w ?_ | refine Cmp.t ?_ | refine Cmp.f ?_ | refine Rem.w ?_ | refine Quo.w ?_ | refine PickV.now rfl ?_ | refine Pick.now rfl ?_ | refine Chk.mk rfl ?_ | refine PickW.w rfl ?_
    | (refine Pick.rec00 Clm.cells_length x.toNat (by omega) hx' rfl ?_)
    | (refine Pick.rec00 Clm.cells_length y.toNat (by omega) hy' rfl ?_)
    | (apply CallI.of; assumption)
    | (exact hk))
set_option maxHeartbeats 8000000 in
theorem s_lots (key : Int) (l : List Clm) (hk : 1 ≤ key ∧ key ≤ 2147483646) (hl : l.length ≤ 12) (hn : (nmsM l).Nodup) : Fc E n_priority_lots [I key, LM l] (LI (lotL key l)) := by
  refine g.fn code_priority_lots rfl ?_
  have t := ltN_tot hn
  have hd := s_Draw g key l.length hk (by omega)
  have hdl := drawAll_length key l.length
  have hsort := fun {K} => in_sortL g (K := K) t hl n_priority_lots_1 (.list l.length (l.flatMap Clm.cells)) (fun x y s K hx hy hK => in_lots1 g l x y s hx hy hK)
  repeat' ((conv => whnf); first
  | refine Br.tt ?_ | refine Br.ff ?_ | refine Need.w ?_ | refine Wr.w ?_ | refine Cmp.t ?_ | refine Cmp.f ?_ | refine Rem.w ?_ | refine Quo.w ?_ | refine PickV.now rfl ?_ | refine Pick.now rfl ?_ | refine Chk.mk rfl ?_ | refine PickW.w rfl ?_
    | (refine CallS.indices g (by omega) rfl ?_)
    | (refine hsort fun s hs => ?_)
    | (refine CallI.of hd ?_)
    | (refine Need.mk ⟨by omega, rfl, by omega, by omega⟩ ?_))
  have hsl := hs.len
  refine LoopW.to (LoopW.by g (fun u : Nat × List Int => u.1 ≤ l.length ∧ Lts l.length s (drawAll key l.length) u.1 u.2)
    (fun u => [(6, LI (drawAll key l.length)), (8, .ref ⟨0, 26, 0⟩ 0 l.length l.length), (27, .ref ⟨0, 13, 0⟩ 0 l.length l.length), (28, I l.length), (29, I u.1)])
    (fun u => [(⟨0, 3, 0⟩, .cells ty_Lpriority_Claim [LM l]), (⟨0, 4, 0⟩, .row true ty_int 1 0 []), (⟨0, 13, 0⟩, .row true ty_int 1 l.length (s.map DI)), (⟨0, 26, 0⟩, .row true ty_int 1 l.length (u.2.map DI))])
    (fun u => l.length - u.1) (fun u hu ih => ?_) (0, List.replicate l.length 0) ⟨Nat.zero_le _, by simp, fun j hj => absurd hj (Nat.not_lt_zero _)⟩) rfl ?_
  · obtain ⟨k, T⟩ := u
    obtain ⟨hk1, hT⟩ := hu
    dsimp only at hk1 hT ih ⊢
    have hTl := hT.len
    by_cases hlt : k < l.length
    · have ih := ih (k + 1, T.set (s.getD k 0).toNat ((drawAll key l.length).getD k 0)) ⟨hlt, hT.step t hs hlt⟩ (by simp only; omega)
      dsimp only at ih
      have hks : k < s.length := by omega
      have hkd : k < (drawAll key l.length).length := by omega
      have hm := idL_mem.1 (hs.mem hks)
      have e1 : s.getD k 0 = s[k] := by simp [List.getD, hks]
      have e2 : (drawAll key l.length).getD k 0 = (drawAll key l.length)[k] := by simp [List.getD, hkd]
      rw [e1, e2] at ih
      have hp := patch_set T s[k].toNat (drawAll key l.length)[k] (by omega)
      generalize drawAll key l.length = d at *
      repeat' ((conv => whnf); first
      | refine Br.tt ?_ | refine Br.ff ?_ | refine Need.w ?_ | refine Wr.w ?_ | refine Cmp.t ?_ | refine Cmp.f ?_ | refine Rem.w ?_ | refine Quo.w ?_ | refine PickV.now rfl ?_ | refine Pick.now rfl ?_ | refine Chk.mk rfl ?_ | refine PickW.w rfl ?_
        | (refine Pick.intI0 k rfl hks ?_)
        | (refine Pick.intI k rfl hkd ?_)
        | (refine LoopW.to ih rfl ?_))
      simp only [Nat.zero_add, Nat.mul_one]
      rw [hp]
    · obtain rfl : k = l.length := by omega
      have he := hT.done hn hs
      subst he
      have hll := lotL_length key l
      repeat' ((conv => whnf); first
      | refine Br.tt ?_ | refine Br.ff ?_ | refine Need.w ?_ | refine Wr.w ?_ | refine Cmp.t ?_ | refine Cmp.f ?_ | refine Rem.w ?_ | refine Quo.w ?_ | refine PickV.now rfl ?_ | refine Pick.now rfl ?_ | refine Chk.mk rfl ?_ | refine PickW.w rfl ?_
        | (refine Ret.mk ?_))
      rw [if_pos ⟨rfl, rfl⟩]
      show V.d (.list l.length _) = V.d (.list (lotL key l).length _)
      rw [hll]
  · simp
set_option maxHeartbeats 8000000 in
theorem r_Lots (key : Int) (l : List Clm) (hk : 1 ≤ key ∧ key ≤ 2147483646) (hl : l.length ≤ 64) : Fc E n_ref05_Lots [I key, LM l] (LI (lotL key l)) := by
  refine g.fn code_ref05_Lots rfl ?_
  have hd := r_Draw g key l.length hk (by omega)
  have hdl := drawAll_length key l.length
  repeat' ((conv => whnf); first
  | refine Br.tt ?_ | refine Br.ff ?_ | refine Need.w ?_ | refine Wr.w ?_ | refine Cmp.t ?_ | refine Cmp.f ?_ | refine Rem.w ?_ | refine Quo.w ?_ | refine PickV.now rfl ?_ | refine Pick.now rfl ?_ | refine Chk.mk rfl ?_ | refine PickW.w rfl ?_
    | (apply CallI.of; assumption))
  refine LoopW.to (LoopW.up g (fun i => [(1, LM l), (5, LI (drawAll key l.length)), (6, .ref ⟨0, 6, 0⟩ 0 i i), (7, I i)]) (fun i => [(⟨0, 4, 0⟩, .row false ty_int 1 0 []), (⟨0, 6, 0⟩, .row false ty_int 1 i (((lotL key l).take i).map DI))]) l.length (fun i hi ih => ?_) 0 (Nat.zero_le _)) rfl rfl
  have hll := lotL_length key l
  by_cases hlt : i < l.length
  · have ih := ih hlt
    have hcp : placeL l.length (ltN l) i < l.length := by
      refine Nat.lt_of_lt_of_le (m := (idL l.length).length) ?_ (by rw [idL_length]; exact Nat.le_refl _)
      refine Nat.lt_of_le_of_ne List.countP_le_length fun hc => ?_
      have := List.countP_eq_length.1 hc (i : Int) (idL_mem.2 (by omega))
      unfold ltN at this
      rw [strLess_irr] at this
      cases this
    have hgl : (lotL key l)[i]'(by omega) = (drawAll key l.length)[placeL l.length (ltN l) i]'(by omega) := by
      have h2 : placeL l.length (ltN l) i < (drawAll key l.length).length := by omega
      simp [lotL, idL, h2]
    rw [List.take_add_one, List.getElem?_eq_getElem (by omega), hgl, Option.toList_some, List.map_append] at ih
    have hlen : (((lotL key l).take i).map DI).length = i := by simp; omega
    repeat' ((conv => whnf); first
    | refine Br.tt ?_ | refine Br.ff ?_ | refine Need.w ?_ | refine Wr.w ?_ | refine Cmp.t ?_ | refine Cmp.f ?_ | refine Rem.w ?_ | refine Quo.w ?_ | refine PickV.now rfl ?_ | refine Pick.now rfl ?_ | refine Chk.mk rfl ?_ | refine PickW.w rfl ?_)
    refine LoopW.to (LoopW.up g (fun k => [(1, LM l), (5, LI (drawAll key l.length)), (6, .ref ⟨0, 6, 0⟩ 0 i i), (7, I i), (8, I ((idL k).countP fun y => ltN l y i)), (9, I k)]) (fun _ => _) l.length (fun k hk kh => ?_) 0 (Nat.zero_le _)) rfl rfl
    have hcl : (idL k).countP (fun y => ltN l y i) ≤ k := by
      have := List.countP_le_length (l := idL k) (p := fun y => ltN l y i)
      rwa [idL_length] at this
    by_cases hkl : k < l.length
    · replace kh := kh hkl
      rw [idL_succ, List.countP_append, List.countP_cons, List.countP_nil, Nat.zero_add] at kh
      have e1 : nmAt l (k : Int) = l[k].rq.nm := nmAt_get (i := (k : Int)) (by omega)
      have e2 : nmAt l (i : Int) = l[i].rq.nm := nmAt_get (i := (i : Int)) (by omega)
      unfold ltN at kh
      rw [e1, e2] at kh
      unfold ltN at hcl ⊢
      rw [e2] at hcl ⊢
      generalize (idL k).countP (fun y => strLess (nmAt l y) l[i].rq.nm) = c at *
      cases hs : strLess l[k].rq.nm l[i].rq.nm
      · rw [hs, if_neg (by decide), Nat.add_zero] at kh
        repeat' ((conv => whnf); first
        | refine Br.tt ?_ | refine Br.ff ?_ | refine Need.w ?_ | refine Wr.w ?_ | refine Cmp.t ?_ | refine Cmp.f ?_ | refine Rem.w ?_ | refine Quo.w ?_ | refine PickV.now rfl ?_ | refine Pick.now rfl ?_ | refine Chk.mk rfl ?_ | refine PickW.w rfl ?_
          | (refine Pick.rec00 Clm.cells_length k rfl hkl rfl ?_)
          | (refine Pick.rec00 Clm.cells_length i rfl hlt rfl ?_)
          | (rw [hs])
          | (refine LoopW.to kh rfl rfl))
      · rw [hs, if_pos rfl] at kh
        repeat' ((conv => whnf); first
        | refine Br.tt ?_ | refine Br.ff ?_ | refine Need.w ?_ | refine Wr.w ?_ | refine Cmp.t ?_ | refine Cmp.f ?_ | refine Rem.w ?_ | refine Quo.w ?_ | refine PickV.now rfl ?_ | refine Pick.now rfl ?_ | refine Chk.mk rfl ?_ | refine PickW.w rfl ?_
          | (refine Pick.rec00 Clm.cells_length k rfl hkl rfl ?_)
          | (refine Pick.rec00 Clm.cells_length i rfl hlt rfl ?_)
          | (rw [hs])
          | (refine LoopW.to kh rfl rfl))
    · obtain rfl : k = l.length := by omega
      have hpl : (idL l.length).countP (fun y => ltN l y i) = placeL l.length (ltN l) i := rfl
      rw [hpl]
      repeat' ((conv => whnf); first
      | refine Br.tt ?_ | refine Br.ff ?_ | refine Need.w ?_ | refine Wr.w ?_ | refine Cmp.t ?_ | refine Cmp.f ?_ | refine Rem.w ?_ | refine Quo.w ?_ | refine PickV.now rfl ?_ | refine Pick.now rfl ?_ | refine Chk.mk rfl ?_ | refine PickW.w rfl ?_
        | (refine Pick.intI (placeL l.length (ltN l) i) rfl (by omega) ?_)
        | (refine Need.mk (by simp only [List.length_cons, List.length_nil]; omega) ?_)
        | (refine LoopW.to ih rfl rfl))
  · obtain rfl : i = l.length := by omega
    rw [List.take_of_length_le (by omega)]
    repeat' ((conv => whnf); first
    | refine Br.tt ?_ | refine Br.ff ?_ | refine Need.w ?_ | refine Wr.w ?_ | refine Cmp.t ?_ | refine Cmp.f ?_ | refine Rem.w ?_ | refine Quo.w ?_ | refine PickV.now rfl ?_ | refine Pick.now rfl ?_ | refine Chk.mk rfl ?_ | refine PickW.w rfl ?_
      | (refine Ret.mk ?_))
    rw [if_pos ⟨rfl, rfl⟩]
    show V.d (.list l.length _) = V.d (.list (lotL key l).length _)
    rw [hll]
end
end Go.Proofs.YtcephlgejkngiaaGreatDoor.Co
