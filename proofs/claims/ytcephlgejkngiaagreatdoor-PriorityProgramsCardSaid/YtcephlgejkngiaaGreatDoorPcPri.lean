
/-
  Priority: CheckProgram, by the reference.
-/
import Derived.Test.YtcephlgejkngiaaGreatDoorPcPrh
namespace Go.Proofs.YtcephlgejkngiaaGreatDoor.Co
open Go Go.Evl
set_option maxRecDepth 100000
theorem key_in {l : List Kyt} {k j : Nat} (h : k < l.length) (hj : j < k) (e : (l[j]'(Nat.lt_trans hj h)).fa = l[k].fa) : l[k].fa ∈ nmsK (l.take k) := by
  unfold nmsK
  rw [List.mem_map]
  refine ⟨l[j]'(Nat.lt_trans hj h), ?_, e⟩
  rw [List.mem_take_iff_getElem]
  exact ⟨j, by omega, rfl⟩
theorem key_out {l : List Kyt} {k : Nat} (h : k < l.length) (hn : ∀ (i : Nat) (hi : i < k), (l[i]'(Nat.lt_trans hi h)).fa ≠ l[k].fa) : l[k].fa ∉ nmsK (l.take k) := by
  intro hm
  unfold nmsK at hm
  rw [List.mem_map] at hm
  obtain ⟨x, hx, e⟩ := hm
  rw [List.mem_take_iff_getElem] at hx
  obtain ⟨i, hi, rfl⟩ := hx
  exact hn i (by omega) e
theorem cls_in {l : List Cls} {s : List UInt8} {j : Nat} (h : j < l.length) (e : l[j].nm = s) : s ∈ nmsC l := by
  unfold nmsC
  rw [List.mem_map]
  exact ⟨_, List.getElem_mem h, e⟩
theorem cls_out {l : List Cls} {s : List UInt8} (hn : ∀ (i : Nat) (h : i < l.length), l[i].nm ≠ s) : s ∉ nmsC l := by
  intro hm
  unfold nmsC at hm
  rw [List.mem_map] at hm
  obtain ⟨x, hx, e⟩ := hm
  obtain ⟨i, hi, rfl⟩ := List.getElem_of_mem hx
  exact hn i hi e
section
variable {E : Oracle} (g : Good E)
include g
set_option maxHeartbeats 8000000 in
theorem r_CheckClass (c : Cls) (hs : SmallC c) : Fc E n_ref05_CheckClass [Csv c] (I (chkCs c)) := by
  refine g.fn code_ref05_CheckClass rfl ?_
  have h1 := r_IsName g c.nm
  have h2 := r_Facts g
  obtain ⟨l1, l2⟩ := hs
  unfold chkCs nmE
  generalize isNameB c.nm = b at *
  cases b
  · repeat' ((conv => whnf); first
  | refine Br.tt ?_ | refine Br.ff ?_ | refine Need.w ?_ | refine Wr.w ?_ | refine Cmp.t ?_ | refine Cmp.f ?_ | refine Rem.w ?_ | refine Quo.w ?_ | refine PickV.now rfl ?_ | refine Pick.now rfl ?_ | refine Chk.mk rfl ?_ | refine PickW.w rfl ?_
      | (apply CallI.of; assumption)
      | (refine Ret.mk rfl))
  · by_cases n1 : 8 < c.wh.length
    · rw [if_pos n1]
      repeat' ((conv => whnf); first
      | refine Br.tt ?_ | refine Br.ff ?_ | refine Need.w ?_ | refine Wr.w ?_ | refine Cmp.t ?_ | refine Cmp.f ?_ | refine Rem.w ?_ | refine Quo.w ?_ | refine PickV.now rfl ?_ | refine Pick.now rfl ?_ | refine Chk.mk rfl ?_ | refine PickW.w rfl ?_
        | (apply CallI.of; assumption)
        | (refine Ret.mk rfl))
    · rw [if_neg n1]
      generalize hR : chkTsG c.wh = R
      repeat' ((conv => whnf); first
      | refine Br.tt ?_ | refine Br.ff ?_ | refine Need.w ?_ | refine Wr.w ?_ | refine Cmp.t ?_ | refine Cmp.f ?_ | refine Rem.w ?_ | refine Quo.w ?_ | refine PickV.now rfl ?_ | refine Pick.now rfl ?_ | refine Chk.mk rfl ?_ | refine PickW.w rfl ?_
        | (apply CallI.of; assumption))
      refine LoopW.to (LoopW.upP g (fun k => [(1, .ptr ⟨0, 1, 0⟩ 0 0), (3, I k)]) (fun _ => _) (fun k => chkTsG (c.wh.drop k) = R) c.wh.length (fun k hk h0 ih => ?_) 0 (Nat.zero_le _) hR) rfl rfl
      by_cases hlt : k < c.wh.length
      · rw [List.drop_eq_getElem_cons hlt, chkTsG] at h0
        have ih := ih hlt
        have hc := r_CheckTest g c.wh[k]
        generalize chkTs c.wh[k] = e at *
        by_cases hz : e = 0
        · rw [if_pos hz] at h0
          have ih := ih h0
          repeat' ((conv => whnf); first
          | refine Br.tt ?_ | refine Br.ff ?_ | refine Need.w ?_ | refine Wr.w ?_ | refine Cmp.t ?_ | refine Cmp.f ?_ | refine Rem.w ?_ | refine Quo.w ?_ | refine PickV.now rfl ?_ | refine Pick.now rfl ?_ | refine Chk.mk rfl ?_ | refine PickW.w rfl ?_
            | (refine PickW.rec Tst.cells_length k rfl hlt ?_)
            | (refine CallI.of hc ?_)
            | (refine Cmp.ff (fun h => h hz) ?_)
            | (refine LoopW.to ih rfl rfl))
        · rw [if_neg hz] at h0
          have hf : firstI [if (!true) = true then 8 else 0, 0, R, if 8 < c.ky.length then 5 else 0, chkKyG [] c.ky] = e := by
            rw [← h0]
            simp [firstI, hz]
          rw [hf]
          repeat' ((conv => whnf); first
          | refine Br.tt ?_ | refine Br.ff ?_ | refine Need.w ?_ | refine Wr.w ?_ | refine Cmp.t ?_ | refine Cmp.f ?_ | refine Rem.w ?_ | refine Quo.w ?_ | refine PickV.now rfl ?_ | refine Pick.now rfl ?_ | refine Chk.mk rfl ?_ | refine PickW.w rfl ?_
            | (refine PickW.rec Tst.cells_length k rfl hlt ?_)
            | (refine CallI.of hc ?_)
            | (refine Cmp.tt hz ?_)
            | (refine Ret.mk rfl))
      · rw [List.drop_eq_nil_of_le (by omega), chkTsG] at h0
        subst h0
        by_cases n2 : 8 < c.ky.length
        · rw [if_pos n2]
          repeat' ((conv => whnf); first
          | refine Br.tt ?_ | refine Br.ff ?_ | refine Need.w ?_ | refine Wr.w ?_ | refine Cmp.t ?_ | refine Cmp.f ?_ | refine Rem.w ?_ | refine Quo.w ?_ | refine PickV.now rfl ?_ | refine Pick.now rfl ?_ | refine Chk.mk rfl ?_ | refine PickW.w rfl ?_
            | (refine Ret.mk rfl))
        · rw [if_neg n2]
          generalize hQ : chkKyG [] c.ky = Q
          have hf : firstI [if (!true) = true then 8 else 0, 0, 0, 0, Q] = Q := by
            simp only [firstI]
            simp
            intro h; exact h.symm
          rw [hf]
          repeat' ((conv => whnf); first
          | refine Br.tt ?_ | refine Br.ff ?_ | refine Need.w ?_ | refine Wr.w ?_ | refine Cmp.t ?_ | refine Cmp.f ?_ | refine Rem.w ?_ | refine Quo.w ?_ | refine PickV.now rfl ?_ | refine Pick.now rfl ?_ | refine Chk.mk rfl ?_ | refine PickW.w rfl ?_)
          refine LoopW.to (LoopW.upP g (fun k => [(1, .ptr ⟨0, 1, 0⟩ 0 0), (5, I k)]) (fun _ => _) (fun k => chkKyG (nmsK (c.ky.take k)) (c.ky.drop k) = Q) c.ky.length (fun k hk h0 ih => ?_) 0 (Nat.zero_le _) hQ) rfl rfl
          by_cases hlt : k < c.ky.length
          · have e : nmsK (c.ky.take (k + 1)) = nmsK (c.ky.take k) ++ [c.ky[k].fa] := nms_succ Kyt.fa hlt
            rw [List.drop_eq_getElem_cons hlt, chkKyG, ← e] at h0
            have ih := ih hlt
            have hw := r_HasFact g c.ky[k].fa
            by_cases hk1 : c.ky[k].fa ∈ fcL
            · rw [decide_eq_true hk1] at hw
              repeat' ((conv => whnf); first
              | refine Br.tt ?_ | refine Br.ff ?_ | refine Need.w ?_ | refine Wr.w ?_ | refine Cmp.t ?_ | refine Cmp.f ?_ | refine Rem.w ?_ | refine Quo.w ?_ | refine PickV.now rfl ?_ | refine Pick.now rfl ?_ | refine Chk.mk rfl ?_ | refine PickW.w rfl ?_
                | (refine PickW.rec Kyt.cells_length k rfl hlt ?_)
                | (refine Pick.rec Kyt.cells_length k rfl hlt rfl ?_)
                | (apply CallI.of; assumption))
              refine LoopW.to (LoopW.upP g (fun j => [(1, .ptr ⟨0, 1, 0⟩ 0 0), (5, I k), (6, I j)]) (fun _ => _) (fun j => ∀ (i : Nat) (_ : i < j) (h : i < c.ky.length), c.ky[i].fa ≠ c.ky[k].fa) k (fun j hj hn jh => ?_) 0 (Nat.zero_le _) (fun i hi => absurd hi (Nat.not_lt_zero _))) rfl rfl
              by_cases hjk : j < k
              · have hjl : j < c.ky.length := by omega
                by_cases hd : c.ky[j].fa = c.ky[k].fa
                · have hm := key_in hlt hjk hd
                  have hc : chkKy (nmsK (c.ky.take k)) c.ky[k] = 9 := by
                    unfold chkKy
                    rw [if_pos hk1, if_pos hm]
                    rfl
                  rw [hc, if_neg (by decide)] at h0
                  rw [← h0]
                  repeat' ((conv => whnf); first
                  | refine Br.tt ?_ | refine Br.ff ?_ | refine Need.w ?_ | refine Wr.w ?_ | refine Cmp.t ?_ | refine Cmp.f ?_ | refine Rem.w ?_ | refine Quo.w ?_ | refine PickV.now rfl ?_ | refine Pick.now rfl ?_ | refine Chk.mk rfl ?_ | refine PickW.w rfl ?_
                    | (refine Pick.rec Kyt.cells_length j rfl hjl rfl ?_)
                    | (refine Pick.rec Kyt.cells_length k rfl hlt rfl ?_)
                    | (refine Cmp.tt hd ?_)
                    | (refine Ret.mk rfl))
                · have jh := jh hjk fun i hi h => by
                    by_cases e : i = j
                    · subst e; exact hd
                    · exact hn i (by omega) h
                  repeat' ((conv => whnf); first
                  | refine Br.tt ?_ | refine Br.ff ?_ | refine Need.w ?_ | refine Wr.w ?_ | refine Cmp.t ?_ | refine Cmp.f ?_ | refine Rem.w ?_ | refine Quo.w ?_ | refine PickV.now rfl ?_ | refine Pick.now rfl ?_ | refine Chk.mk rfl ?_ | refine PickW.w rfl ?_
                    | (refine Pick.rec Kyt.cells_length j rfl hjl rfl ?_)
                    | (refine Pick.rec Kyt.cells_length k rfl hlt rfl ?_)
                    | (refine Cmp.ff hd ?_)
                    | (refine LoopW.to jh rfl rfl))
              · have hm := key_out hlt fun i hi => hn i (by omega) (by omega)
                have hc : chkKy (nmsK (c.ky.take k)) c.ky[k] = 0 := by
                  unfold chkKy
                  rw [if_pos hk1, if_neg hm]
                  rfl
                rw [hc, if_pos rfl] at h0
                have ih := ih h0
                repeat' ((conv => whnf); first
                | refine Br.tt ?_ | refine Br.ff ?_ | refine Need.w ?_ | refine Wr.w ?_ | refine Cmp.t ?_ | refine Cmp.f ?_ | refine Rem.w ?_ | refine Quo.w ?_ | refine PickV.now rfl ?_ | refine Pick.now rfl ?_ | refine Chk.mk rfl ?_ | refine PickW.w rfl ?_
                  | (refine LoopW.to ih rfl rfl))
            · rw [decide_eq_false hk1] at hw
              have hc : chkKy (nmsK (c.ky.take k)) c.ky[k] = 10 := by
                unfold chkKy
                rw [if_neg hk1]
                rfl
              rw [hc, if_neg (by decide)] at h0
              rw [← h0]
              repeat' ((conv => whnf); first
              | refine Br.tt ?_ | refine Br.ff ?_ | refine Need.w ?_ | refine Wr.w ?_ | refine Cmp.t ?_ | refine Cmp.f ?_ | refine Rem.w ?_ | refine Quo.w ?_ | refine PickV.now rfl ?_ | refine Pick.now rfl ?_ | refine Chk.mk rfl ?_ | refine PickW.w rfl ?_
                | (refine Pick.rec Kyt.cells_length k rfl hlt rfl ?_)
                | (apply CallI.of; assumption)
                | (refine Ret.mk rfl))
          · rw [List.drop_eq_nil_of_le (by omega), chkKyG] at h0
            rw [← h0]
            repeat' ((conv => whnf); first
            | refine Br.tt ?_ | refine Br.ff ?_ | refine Need.w ?_ | refine Wr.w ?_ | refine Cmp.t ?_ | refine Cmp.f ?_ | refine Rem.w ?_ | refine Quo.w ?_ | refine PickV.now rfl ?_ | refine Pick.now rfl ?_ | refine Chk.mk rfl ?_ | refine PickW.w rfl ?_
              | (refine Ret.mk rfl))
theorem r_CheckPool (p : Prg) : Fc E n_ref05_CheckPool [Pgv p] (I (chkPool p)) := by
  refine g.fn code_ref05_CheckPool rfl ?_
  have h := r_CheckRange g
  have h3 : Fc E n_ref01_First [.d (.list 3 [DI (rng p.po 0 p.cl.length), DI (rng p.of 1 100), DI (rng p.fo 0 p.of)])] (I (chkPool p)) := r_First g [_, _, _] (by simp)
  repeat' ((conv => whnf); first
  | refine Br.tt ?_ | refine Br.ff ?_ | refine Need.w ?_ | refine Wr.w ?_ | refine Cmp.t ?_ | refine Cmp.f ?_ | refine Rem.w ?_ | refine Quo.w ?_ | refine PickV.now rfl ?_ | refine Pick.now rfl ?_ | refine Chk.mk rfl ?_ | refine PickW.w rfl ?_
    | (refine CallI.of (h _ _ _) ?_)
    | (apply CallI.of; assumption)
    | (refine Ret.mk rfl))
set_option maxHeartbeats 8000000 in
theorem r_padded (l : List Cls) (c : Cls) (hl : l.length ≤ 1000000) (hs : SmallC c) : Fc E n_ref05_added [LC l, Csv c] (I (chkCa (nmsC l) c)) := by
  refine g.fn code_ref05_added rfl ?_
  have h1 := r_CheckClass g c hs
  unfold chkCa
  generalize chkCs c = e at *
  by_cases he : e = 0
  · subst he
    repeat' ((conv => whnf); first
    | refine Br.tt ?_ | refine Br.ff ?_ | refine Need.w ?_ | refine Wr.w ?_ | refine Cmp.t ?_ | refine Cmp.f ?_ | refine Rem.w ?_ | refine Quo.w ?_ | refine PickV.now rfl ?_ | refine Pick.now rfl ?_ | refine Chk.mk rfl ?_ | refine PickW.w rfl ?_
      | (apply CallI.of; assumption))
    refine LoopW.to (LoopW.upP g (fun k => [(0, LC l), (3, .ptr ⟨0, 3, 0⟩ 0 0), (5, I 0), (6, I k)]) (fun _ => _) (fun k => ∀ (i : Nat) (_ : i < k) (h : i < l.length), l[i].nm ≠ c.nm) l.length (fun k hk hn ih => ?_) 0 (Nat.zero_le _) (fun i hi => absurd hi (Nat.not_lt_zero _))) rfl rfl
    by_cases hlt : k < l.length
    · by_cases hd : l[k].nm = c.nm
      · rw [if_pos (cls_in hlt hd)]
        by_cases hx : k + 1 < l.length
        all_goals repeat' ((conv => whnf); first
        | refine Br.tt ?_ | refine Br.ff ?_ | refine Need.w ?_ | refine Wr.w ?_ | refine Cmp.t ?_ | refine Cmp.f ?_ | refine Rem.w ?_ | refine Quo.w ?_ | refine PickV.now rfl ?_ | refine Pick.now rfl ?_ | refine Chk.mk rfl ?_ | refine PickW.w rfl ?_
          | (refine Pick.rec Cls.cells_length k rfl hlt rfl ?_)
          | (refine Cmp.tt hd ?_)
          | (refine LoopW.step g.lim ?_)
          | (refine Ret.mk rfl))
      · have ih := ih hlt fun i hi h => by
          by_cases e : i = k
          · subst e; exact hd
          · exact hn i (by omega) h
        repeat' ((conv => whnf); first
        | refine Br.tt ?_ | refine Br.ff ?_ | refine Need.w ?_ | refine Wr.w ?_ | refine Cmp.t ?_ | refine Cmp.f ?_ | refine Rem.w ?_ | refine Quo.w ?_ | refine PickV.now rfl ?_ | refine Pick.now rfl ?_ | refine Chk.mk rfl ?_ | refine PickW.w rfl ?_
          | (refine Pick.rec Cls.cells_length k rfl hlt rfl ?_)
          | (refine Cmp.ff hd ?_)
          | (refine LoopW.to ih rfl rfl))
    · rw [if_neg (cls_out fun i h => hn i (by omega) h)]
      repeat' ((conv => whnf); first
      | refine Br.tt ?_ | refine Br.ff ?_ | refine Need.w ?_ | refine Wr.w ?_ | refine Cmp.t ?_ | refine Cmp.f ?_ | refine Rem.w ?_ | refine Quo.w ?_ | refine PickV.now rfl ?_ | refine Pick.now rfl ?_ | refine Chk.mk rfl ?_ | refine PickW.w rfl ?_
        | (refine Ret.mk rfl))
  · have hf : ∀ x, firstI [e, x] = e := fun x => by simp [firstI, he]
    rw [hf]
    by_cases hx : 0 < l.length
    all_goals repeat' ((conv => whnf); first
    | refine Br.tt ?_ | refine Br.ff ?_ | refine Need.w ?_ | refine Wr.w ?_ | refine Cmp.t ?_ | refine Cmp.f ?_ | refine Rem.w ?_ | refine Quo.w ?_ | refine PickV.now rfl ?_ | refine Pick.now rfl ?_ | refine Chk.mk rfl ?_ | refine PickW.w rfl ?_
      | (apply CallI.of; assumption)
      | (refine Cmp.ff he ?_)
      | (refine LoopW.step g.lim ?_)
      | (refine Ret.mk rfl))
set_option maxHeartbeats 8000000 in
theorem r_CheckProgram (p : Prg) (hs : SmallP p) : Fc E n_ref05_CheckProgram [Pgv p] (I (chkPg p)) := by
  refine g.fn code_ref05_CheckProgram rfl ?_
  have hp := r_CheckPool g p
  obtain ⟨l1, l2⟩ := hs
  unfold chkPg
  by_cases n1 : p.cl.length = 0
  · rw [if_pos n1]
    repeat' ((conv => whnf); first
    | refine Br.tt ?_ | refine Br.ff ?_ | refine Need.w ?_ | refine Wr.w ?_ | refine Cmp.t ?_ | refine Cmp.f ?_ | refine Rem.w ?_ | refine Quo.w ?_ | refine PickV.now rfl ?_ | refine Pick.now rfl ?_ | refine Chk.mk rfl ?_ | refine PickW.w rfl ?_
      | (refine Ret.mk rfl))
  · rw [if_neg n1]
    by_cases n2 : 16 < p.cl.length
    · rw [if_pos n2]
      repeat' ((conv => whnf); first
      | refine Br.tt ?_ | refine Br.ff ?_ | refine Need.w ?_ | refine Wr.w ?_ | refine Cmp.t ?_ | refine Cmp.f ?_ | refine Rem.w ?_ | refine Quo.w ?_ | refine PickV.now rfl ?_ | refine Pick.now rfl ?_ | refine Chk.mk rfl ?_ | refine PickW.w rfl ?_
        | (refine Ret.mk rfl))
    · rw [if_neg n2]
      generalize hR : chkCsG [] p.cl = R
      generalize chkPool p = q at *
      repeat' ((conv => whnf); first
      | refine Br.tt ?_ | refine Br.ff ?_ | refine Need.w ?_ | refine Wr.w ?_ | refine Cmp.t ?_ | refine Cmp.f ?_ | refine Rem.w ?_ | refine Quo.w ?_ | refine PickV.now rfl ?_ | refine Pick.now rfl ?_ | refine Chk.mk rfl ?_ | refine PickW.w rfl ?_)
      refine LoopW.to (LoopW.upP g (fun k => [(1, .ptr ⟨0, 1, 0⟩ 0 0), (3, I k)]) (fun _ => _) (fun k => chkCsG (nmsC (p.cl.take k)) (p.cl.drop k) = R) p.cl.length (fun k hk h0 ih => ?_) 0 (Nat.zero_le _) hR) rfl rfl
      by_cases hlt : k < p.cl.length
      · have e : nmsC (p.cl.take (k + 1)) = nmsC (p.cl.take k) ++ [p.cl[k].nm] := nms_succ Cls.nm hlt
        rw [List.drop_eq_getElem_cons hlt, chkCsG, ← e] at h0
        have ih := ih hlt
        have hn := r_padded g (p.cl.take k) p.cl[k] (by simp; omega) (l2 _ (List.getElem_mem hlt))
        have ht := sl_take Cls.cells 3 Cls.cells_length p.cl k (by omega)
        generalize chkCa (nmsC (p.cl.take k)) p.cl[k] = r at *
        by_cases hz : r = 0
        · rw [if_pos hz] at h0
          have ih := ih h0
          repeat' ((conv => whnf); first
          | refine Br.tt ?_ | refine Br.ff ?_ | refine Need.w ?_ | refine Wr.w ?_ | refine Cmp.t ?_ | refine Cmp.f ?_ | refine Rem.w ?_ | refine Quo.w ?_ | refine PickV.now rfl ?_ | refine Pick.now rfl ?_ | refine Chk.mk rfl ?_ | refine PickW.w rfl ?_
            | (refine PickW.rec Cls.cells_length k rfl hlt ?_)
            | (refine Bounds.at 0 k rfl rfl (by omega) ?_ <;> (try rw [ht]))
            | (refine CallI.of hn ?_)
            | (refine Cmp.ff (fun h => h hz) ?_)
            | (refine LoopW.to ih rfl rfl))
        · rw [if_neg hz] at h0
          have hf : firstI [0, 0, R, q] = r := by rw [← h0]; simp [firstI, hz]
          rw [hf]
          repeat' ((conv => whnf); first
          | refine Br.tt ?_ | refine Br.ff ?_ | refine Need.w ?_ | refine Wr.w ?_ | refine Cmp.t ?_ | refine Cmp.f ?_ | refine Rem.w ?_ | refine Quo.w ?_ | refine PickV.now rfl ?_ | refine Pick.now rfl ?_ | refine Chk.mk rfl ?_ | refine PickW.w rfl ?_
            | (refine PickW.rec Cls.cells_length k rfl hlt ?_)
            | (refine Bounds.at 0 k rfl rfl (by omega) ?_ <;> (try rw [ht]))
            | (refine CallI.of hn ?_)
            | (refine Cmp.tt hz ?_)
            | (refine Ret.mk rfl))
      · rw [List.drop_eq_nil_of_le (by omega), chkCsG] at h0
        have hf : firstI [0, 0, R, q] = q := by
          rw [← h0]
          simp only [firstI]
          simp
          intro h; exact h.symm
        rw [hf]
        repeat' ((conv => whnf); first
        | refine Br.tt ?_ | refine Br.ff ?_ | refine Need.w ?_ | refine Wr.w ?_ | refine Cmp.t ?_ | refine Cmp.f ?_ | refine Rem.w ?_ | refine Quo.w ?_ | refine PickV.now rfl ?_ | refine Pick.now rfl ?_ | refine Chk.mk rfl ?_ | refine PickW.w rfl ?_
          | (apply CallI.of; assumption)
          | (refine Ret.mk rfl))
end
end Go.Proofs.YtcephlgejkngiaaGreatDoor.Co
