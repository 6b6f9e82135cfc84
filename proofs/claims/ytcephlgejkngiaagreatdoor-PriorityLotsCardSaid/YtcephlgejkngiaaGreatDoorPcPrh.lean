
/-
  Priority: CheckProgram, by the program.
-/
import Derived.Test.YtcephlgejkngiaaGreatDoorPcPrg
namespace Go.Proofs.YtcephlgejkngiaaGreatDoor.Co
open Go Go.Evl
set_option maxRecDepth 100000
theorem firstI_two (a b : Int) (r : List Int) : firstI (a :: b :: r) = if firstI [a, b] = 0 then firstI r else firstI [a, b] := by
  simp only [firstI]
  by_cases ha : a = 0
  · by_cases hb : b = 0 <;> simp [ha, hb]
  · simp [ha]
def SmallC (c : Cls) : Prop := c.wh.length ≤ 1000000 ∧ c.ky.length ≤ 1000000
def SmallP (p : Prg) : Prop := p.cl.length ≤ 1000000 ∧ ∀ c ∈ p.cl, SmallC c
section
variable {E : Oracle} (g : Good E)
include g
set_option maxHeartbeats 4000000 in
theorem s_ClassCheck (c : Cls) (hs : SmallC c) : Fc E n_priority_Class_check [Csv c] (I (chkCs c)) := by
  refine g.fn code_priority_Class_check rfl ?_
  have h1 := s_IsName g c.nm
  have h2 := s_eachT g c.wh hs.1
  have h3 := s_eachK g c.ky hs.2
  have hp := s_pfirst2 g (nmE c.nm) (if 8 < c.wh.length then 5 else 0)
  have hq := s_pfirst3 g (chkTsG c.wh) (if 8 < c.ky.length then 5 else 0) (chkKyG [] c.ky)
  unfold chkCs
  rw [firstI_two]
  unfold nmE at *
  obtain ⟨l1, l2⟩ := hs
  generalize firstI [chkTsG c.wh, if 8 < c.ky.length then 5 else 0, chkKyG [] c.ky] = q at *
  by_cases n1 : 8 < c.wh.length
  · rw [if_pos n1] at hp ⊢
    generalize isNameB c.nm = b at *
    have hz : firstI [if (!b) = true then 8 else 0, 5] ≠ 0 := by cases b <;> decide
    rw [if_neg hz]
    generalize firstI [if (!b) = true then 8 else 0, 5] = r at *
    repeat' ((conv => whnf); first
    | refine Br.tt ?_ | refine Br.ff ?_ | refine Need.w ?_ | refine Wr.w ?_ | refine Cmp.t ?_ | refine Cmp.f ?_ | refine Rem.w ?_ | refine Quo.w ?_ | refine PickV.now rfl ?_ | refine Pick.now rfl ?_ | refine Chk.mk rfl ?_ | refine PickW.w rfl ?_
      | (apply CallI.of; assumption)
      | (refine CallI.of (s_pwhen g _ _) ?_)
      | (refine Cmp.tt hz ?_)
      | (refine Ret.mk rfl))
  · rw [if_neg n1] at hp ⊢
    generalize isNameB c.nm = b at *
    generalize firstI [if (!b) = true then 8 else 0, 0] = r at *
    by_cases hz : r = 0
    · rw [if_pos hz]
      by_cases n2 : 8 < c.ky.length
      · rw [if_pos n2] at hq
        repeat' ((conv => whnf); first
        | refine Br.tt ?_ | refine Br.ff ?_ | refine Need.w ?_ | refine Wr.w ?_ | refine Cmp.t ?_ | refine Cmp.f ?_ | refine Rem.w ?_ | refine Quo.w ?_ | refine PickV.now rfl ?_ | refine Pick.now rfl ?_ | refine Chk.mk rfl ?_ | refine PickW.w rfl ?_
          | (apply CallI.of; assumption)
          | (refine CallI.of (s_pwhen g _ _) ?_)
          | (refine Cmp.ff (fun h => h hz) ?_)
          | (refine Ret.mk rfl))
      · rw [if_neg n2] at hq
        repeat' ((conv => whnf); first
        | refine Br.tt ?_ | refine Br.ff ?_ | refine Need.w ?_ | refine Wr.w ?_ | refine Cmp.t ?_ | refine Cmp.f ?_ | refine Rem.w ?_ | refine Quo.w ?_ | refine PickV.now rfl ?_ | refine Pick.now rfl ?_ | refine Chk.mk rfl ?_ | refine PickW.w rfl ?_
          | (apply CallI.of; assumption)
          | (refine CallI.of (s_pwhen g _ _) ?_)
          | (refine Cmp.ff (fun h => h hz) ?_)
          | (refine Ret.mk rfl))
    · rw [if_neg hz]
      repeat' ((conv => whnf); first
      | refine Br.tt ?_ | refine Br.ff ?_ | refine Need.w ?_ | refine Wr.w ?_ | refine Cmp.t ?_ | refine Cmp.f ?_ | refine Rem.w ?_ | refine Quo.w ?_ | refine PickV.now rfl ?_ | refine Pick.now rfl ?_ | refine Chk.mk rfl ?_ | refine PickW.w rfl ?_
        | (apply CallI.of; assumption)
        | (refine CallI.of (s_pwhen g _ _) ?_)
        | (refine Cmp.tt hz ?_)
        | (refine Ret.mk rfl))
set_option maxHeartbeats 4000000 in
theorem in_cls (l : List Cls) (q : Cls) (hl : l.length ≤ 1000000) {K : V → Mem → Prop}
    (hK : K (I (idxG (nmsC l) q.nm 0)) [(⟨0, 3, 0⟩, .cells ty_priority_Class [V.d (.str q.nm), V.d (.list q.wh.length (q.wh.flatMap Tst.cells)), V.d (.list q.ky.length (q.ky.flatMap Kyt.cells))])]) :
    In E 2 n_slices_IndexFunc_Lpriority_Class_priority_Class [LC l, .fn n_priority_added_1 [] [.ptr ⟨0, 3, 0⟩ 0 0]] [(⟨0, 3, 0⟩, .cells ty_priority_Class [V.d (.str q.nm), V.d (.list q.wh.length (q.wh.flatMap Tst.cells)), V.d (.list q.ky.length (q.ky.flatMap Kyt.cells))])] K := by
  generalize hA : idxG (nmsC l) q.nm 0 = A at *
  refine In.enter g.lim rfl code_slices_IndexFunc_Lpriority_Class_priority_Class ?_
  repeat' ((conv => whnf); first
  | refine Br.tt ?_ | refine Br.ff ?_ | refine Need.w ?_ | refine Wr.w ?_ | refine Cmp.t ?_ | refine Cmp.f ?_ | refine Rem.w ?_ | refine Quo.w ?_ | refine PickV.now rfl ?_ | refine Pick.now rfl ?_ | refine Chk.mk rfl ?_ | refine PickW.w rfl ?_)
  refine LoopW.to (LoopW.upP g (fun k => [(0, LC l), (1, .fn n_priority_added_1 [] [.ptr ⟨0, 3, 0⟩ 0 0]), (7, I l.length), (8, I k)]) (fun _ => _) (fun k => idxG (nmsC (l.drop k)) q.nm k = A) l.length (fun k hk h0 ih => ?_) 0 (Nat.zero_le _) hA) rfl rfl
  by_cases hlt : k < l.length
  · rw [List.drop_eq_getElem_cons hlt, nmsC, List.map_cons, idxG] at h0
    have ih := ih hlt
    by_cases hd : l[k].nm = q.nm
    · rw [if_pos hd.symm] at h0
      subst h0
      repeat' ((conv => whnf); first
      | refine Br.tt ?_ | refine Br.ff ?_ | refine Need.w ?_ | refine Wr.w ?_ | refine Cmp.t ?_ | refine Cmp.f ?_ | refine Rem.w ?_ | refine Quo.w ?_ | refine PickV.now rfl ?_ | refine Pick.now rfl ?_ | refine Chk.mk rfl ?_ | refine PickW.w rfl ?_
        | (refine PickW.rec Cls.cells_length k rfl hlt ?_)
        | (refine In.enter g.lim rfl code_priority_added_1 ?_)
        | (refine Cmp.tt hd ?_)
        | (exact hK))
    · rw [if_neg (Ne.symm hd)] at h0
      have ih := ih h0
      repeat' ((conv => whnf); first
      | refine Br.tt ?_ | refine Br.ff ?_ | refine Need.w ?_ | refine Wr.w ?_ | refine Cmp.t ?_ | refine Cmp.f ?_ | refine Rem.w ?_ | refine Quo.w ?_ | refine PickV.now rfl ?_ | refine Pick.now rfl ?_ | refine Chk.mk rfl ?_ | refine PickW.w rfl ?_
        | (refine PickW.rec Cls.cells_length k rfl hlt ?_)
        | (refine In.enter g.lim rfl code_priority_added_1 ?_)
        | (refine Cmp.ff hd ?_)
        | (refine LoopW.to ih rfl rfl))
  · rw [List.drop_eq_nil_of_le (by omega), nmsC, List.map_nil, idxG] at h0
    subst h0
    repeat' ((conv => whnf); first
    | refine Br.tt ?_ | refine Br.ff ?_ | refine Need.w ?_ | refine Wr.w ?_ | refine Cmp.t ?_ | refine Cmp.f ?_ | refine Rem.w ?_ | refine Quo.w ?_ | refine PickV.now rfl ?_ | refine Pick.now rfl ?_ | refine Chk.mk rfl ?_ | refine PickW.w rfl ?_
      | (exact hK))
set_option maxHeartbeats 4000000 in
theorem s_added (l : List Cls) (c : Cls) (hl : l.length ≤ 1000000) (hs : SmallC c) : Fc E n_priority_added [LC l, Csv c] (I (chkCa (nmsC l) c)) := by
  refine g.fn code_priority_added rfl ?_
  have h1 := s_ClassCheck g c hs
  have h3 := s_pfirst2 g (chkCs c) (if c.nm ∈ nmsC l then 9 else 0)
  unfold chkCa
  have hm := idxG_mem c.nm (nmsC l) 0
  have hin := fun {K} => in_cls g (K := K) l c hl
  generalize idxG (nmsC l) c.nm 0 = r at *
  generalize chkCs c = e at *
  by_cases hr : 0 ≤ r
  · rw [if_pos (hm.1 hr)] at h3 ⊢
    repeat' ((conv => whnf); first
    | refine Br.tt ?_ | refine Br.ff ?_ | refine Need.w ?_ | refine Wr.w ?_ | refine Cmp.t ?_ | refine Cmp.f ?_ | refine Rem.w ?_ | refine Quo.w ?_ | refine PickV.now rfl ?_ | refine Pick.now rfl ?_ | refine Chk.mk rfl ?_ | refine PickW.w rfl ?_
      | (refine In.enter g.lim rfl code_slices_ContainsFunc_Lpriority_Class_priority_Class ?_)
      | (refine hin ?_)
      | (apply CallI.of; assumption)
      | (refine CallI.of (s_pwhen g _ _) ?_)
      | (refine Ret.mk rfl))
  · rw [if_neg (fun h => hr (hm.2 h))] at h3 ⊢
    repeat' ((conv => whnf); first
    | refine Br.tt ?_ | refine Br.ff ?_ | refine Need.w ?_ | refine Wr.w ?_ | refine Cmp.t ?_ | refine Cmp.f ?_ | refine Rem.w ?_ | refine Quo.w ?_ | refine PickV.now rfl ?_ | refine Pick.now rfl ?_ | refine Chk.mk rfl ?_ | refine PickW.w rfl ?_
      | (refine In.enter g.lim rfl code_slices_ContainsFunc_Lpriority_Class_priority_Class ?_)
      | (refine hin ?_)
      | (apply CallI.of; assumption)
      | (refine CallI.of (s_pwhen g _ _) ?_)
      | (refine Ret.mk rfl))
set_option maxHeartbeats 4000000 in
theorem s_eachC (l : List Cls) (hl : l.length ≤ 1000000) (hs : ∀ c ∈ l, SmallC c) : Fc E n_priority_each_priority_Class [LC l, .d (.fn n_priority_added)] (I (chkCsG [] l)) := by
  refine g.fn code_priority_each_priority_Class rfl ?_
  generalize hR : chkCsG [] l = R
  repeat' ((conv => whnf); first
  | refine Br.tt ?_ | refine Br.ff ?_ | refine Need.w ?_ | refine Wr.w ?_ | refine Cmp.t ?_ | refine Cmp.f ?_ | refine Rem.w ?_ | refine Quo.w ?_ | refine PickV.now rfl ?_ | refine Pick.now rfl ?_ | refine Chk.mk rfl ?_ | refine PickW.w rfl ?_)
  refine LoopW.to (LoopW.upP g (fun k => [(0, LC l), (1, .d (.fn n_priority_added)), (8, LC l), (9, I l.length), (10, I k)]) (fun _ => []) (fun k => chkCsG (nmsC (l.take k)) (l.drop k) = R) l.length (fun k hk h0 ih => ?_) 0 (Nat.zero_le _) hR) rfl rfl
  by_cases hlt : k < l.length
  · have e : nmsC (l.take (k + 1)) = nmsC (l.take k) ++ [l[k].nm] := nms_succ Cls.nm hlt
    rw [List.drop_eq_getElem_cons hlt, chkCsG, ← e] at h0
    have ih := ih hlt
    have hn := s_added g (l.take k) l[k] (by simp; omega) (hs _ (List.getElem_mem hlt))
    have ht := sl_take Cls.cells 3 Cls.cells_length l k (by omega)
    generalize chkCa (nmsC (l.take k)) l[k] = r at *
    by_cases hz : r = 0
    · rw [if_pos hz] at h0
      have ih := ih h0
      repeat' ((conv => whnf); first
      | refine Br.tt ?_ | refine Br.ff ?_ | refine Need.w ?_ | refine Wr.w ?_ | refine Cmp.t ?_ | refine Cmp.f ?_ | refine Rem.w ?_ | refine Quo.w ?_ | refine PickV.now rfl ?_ | refine Pick.now rfl ?_ | refine Chk.mk rfl ?_ | refine PickW.w rfl ?_
        | (refine PickW.rec Cls.cells_length k rfl hlt ?_)
        | (refine Bounds.at 0 k rfl rfl (by omega) ?_ <;> (try rw [ht]))
        | (refine CallI.of hn ?_)
        | (refine Cmp.ff (fun h => h hz) ?_)
        | (refine LoopW.to ih rfl rfl))
    · rw [if_neg hz] at h0
      rw [← h0]
      repeat' ((conv => whnf); first
      | refine Br.tt ?_ | refine Br.ff ?_ | refine Need.w ?_ | refine Wr.w ?_ | refine Cmp.t ?_ | refine Cmp.f ?_ | refine Rem.w ?_ | refine Quo.w ?_ | refine PickV.now rfl ?_ | refine Pick.now rfl ?_ | refine Chk.mk rfl ?_ | refine PickW.w rfl ?_
        | (refine PickW.rec Cls.cells_length k rfl hlt ?_)
        | (refine Bounds.at 0 k rfl rfl (by omega) ?_ <;> (try rw [ht]))
        | (refine CallI.of hn ?_)
        | (refine Cmp.tt hz ?_)
        | (refine Ret.mk rfl))
  · rw [List.drop_eq_nil_of_le (by omega), chkCsG] at h0
    rw [← h0]
    repeat' ((conv => whnf); first
    | refine Br.tt ?_ | refine Br.ff ?_ | refine Need.w ?_ | refine Wr.w ?_ | refine Cmp.t ?_ | refine Cmp.f ?_ | refine Rem.w ?_ | refine Quo.w ?_ | refine PickV.now rfl ?_ | refine Pick.now rfl ?_ | refine Chk.mk rfl ?_ | refine PickW.w rfl ?_
      | (refine Ret.mk rfl))
theorem s_ppool (p : Prg) : Fc E n_priority_Program_pool [Pgv p] (I (chkPool p)) := by
  refine g.fn code_priority_Program_pool rfl ?_
  have h := s_pwithin g
  repeat' ((conv => whnf); first
  | refine Br.tt ?_ | refine Br.ff ?_ | refine Need.w ?_ | refine Wr.w ?_ | refine Cmp.t ?_ | refine Cmp.f ?_ | refine Rem.w ?_ | refine Quo.w ?_ | refine PickV.now rfl ?_ | refine Pick.now rfl ?_ | refine Chk.mk rfl ?_ | refine PickW.w rfl ?_
    | (refine CallI.of (h _ _ _) ?_)
    | (refine CallI.of (s_pfirst3 g _ _ _) ?_)
    | (refine Ret.mk rfl))
set_option maxHeartbeats 4000000 in
theorem s_CheckProgram (p : Prg) (hs : SmallP p) : Fc E n_priority_CheckProgram [Pgv p] (I (chkPg p)) := by
  refine g.fn code_priority_CheckProgram rfl ?_
  have h1 := s_eachC g p.cl hs.1 hs.2
  have h2 := s_ppool g p
  have hq := s_pfirst2 g (chkCsG [] p.cl) (chkPool p)
  have hl := hs.1
  unfold chkPg
  rw [firstI_two]
  generalize firstI [chkCsG [] p.cl, chkPool p] = q at *
  by_cases n1 : p.cl.length = 0
  · rw [if_pos n1, if_neg (show ¬ 16 < p.cl.length by omega), if_neg (show ¬ firstI [12, 0] = 0 by decide)]
    repeat' ((conv => whnf); first
    | refine Br.tt ?_ | refine Br.ff ?_ | refine Need.w ?_ | refine Wr.w ?_ | refine Cmp.t ?_ | refine Cmp.f ?_ | refine Rem.w ?_ | refine Quo.w ?_ | refine PickV.now rfl ?_ | refine Pick.now rfl ?_ | refine Chk.mk rfl ?_ | refine PickW.w rfl ?_
      | (apply CallI.of; assumption)
      | (refine CallI.of (s_pwhen g _ _) ?_)
      | (refine CallI.of (s_pfirst2 g _ _) ?_)
      | (refine Ret.mk rfl))
  · rw [if_neg n1]
    by_cases n2 : 16 < p.cl.length
    · rw [if_pos n2, if_neg (show ¬ firstI [0, 5] = 0 by decide)]
      repeat' ((conv => whnf); first
      | refine Br.tt ?_ | refine Br.ff ?_ | refine Need.w ?_ | refine Wr.w ?_ | refine Cmp.t ?_ | refine Cmp.f ?_ | refine Rem.w ?_ | refine Quo.w ?_ | refine PickV.now rfl ?_ | refine Pick.now rfl ?_ | refine Chk.mk rfl ?_ | refine PickW.w rfl ?_
        | (apply CallI.of; assumption)
        | (refine CallI.of (s_pwhen g _ _) ?_)
        | (refine CallI.of (s_pfirst2 g _ _) ?_)
        | (refine Ret.mk rfl))
    · rw [if_neg n2, if_pos (show firstI [0, 0] = 0 by decide)]
      repeat' ((conv => whnf); first
      | refine Br.tt ?_ | refine Br.ff ?_ | refine Need.w ?_ | refine Wr.w ?_ | refine Cmp.t ?_ | refine Cmp.f ?_ | refine Rem.w ?_ | refine Quo.w ?_ | refine PickV.now rfl ?_ | refine Pick.now rfl ?_ | refine Chk.mk rfl ?_ | refine PickW.w rfl ?_
        | (apply CallI.of; assumption)
        | (refine CallI.of (s_pwhen g _ _) ?_)
        | (refine CallI.of (s_pfirst2 g _ _) ?_)
        | (refine Ret.mk rfl))
end
end Go.Proofs.YtcephlgejkngiaaGreatDoor.Co
