
/-
  Results checked, and held against requests, by the program and by the reference; a request at another minute.
-/
import Derived.Test.YtmjifdpcoaeehaaGreatDoorMsAnp
import Derived.Test.YtmjifdpcoaeehaaGreatDoorSpName
import Derived.Test.YtmjifdpcoaeehaaGreatDoorMsCha
namespace Go.Proofs.YtmjifdpcoaeehaaGreatDoor.Co
open Go Go.Evl
set_option maxRecDepth 100000
theorem rstE_eq (seen : List (List UInt8)) (r : Rst) : rstE seen r = if isNameB r.nm = true then (if rng r.mi 0 (if r.gr = true then 1439 else 0) = 0 then (if r.nm ∈ seen then 9 else 0) else 3) else 8 := by
  unfold rstE nmE
  have h3 : ∀ n a b, rng n a b = 0 ∨ rng n a b = 3 := fun n a b => by
    unfold rng
    by_cases h : n < a ∨ b < n
    · rw [if_pos h]; exact .inr rfl
    · rw [if_neg h]; exact .inl rfl
  have h3 := h3 r.mi 0 (if r.gr = true then 1439 else 0)
  generalize rng r.mi 0 (if r.gr = true then 1439 else 0) = a at *
  cases isNameB r.nm <;> rcases h3 with rfl | rfl <;> by_cases hm : r.nm ∈ seen <;> simp [firstI, hm]
section
variable {E : Oracle} (g : Good E)
include g
set_option maxHeartbeats 8000000 in
theorem s_checkResults (l : List Rst) (hl : l.length ≤ 1000000) : Fc E n_message_checkResults [LR l] (I (chkRss l)) := by
  refine g.fn code_message_checkResults rfl ?_
  unfold chkRss
  by_cases hn : 64 < l.length
  · rw [if_pos hn]
    repeat' ((conv => whnf); first
    | refine Br.tt ?_
    | refine Br.ff ?_
    | refine Need.w ?_
    | refine Wr.w ?_
    | refine Cmp.t ?_
    | refine Cmp.f ?_
    | refine Rem.w ?_
    | refine Quo.w ?_
    | refine PickV.now rfl ?_
    | refine Pick.now rfl ?_
    | refine Chk.mk rfl ?_
    | refine PickW.w rfl ?_
      | (refine Ret.mk rfl))
  · rw [if_neg hn]
    generalize hR : chkRsG [] l = R
    repeat' ((conv => whnf); first
    | refine Br.tt ?_
    | refine Br.ff ?_
    | refine Need.w ?_
    | refine Wr.w ?_
    | refine Cmp.t ?_
    | refine Cmp.f ?_
    | refine Rem.w ?_
    | refine Quo.w ?_
    | refine PickV.now rfl ?_
    | refine Pick.now rfl ?_
    | refine Chk.mk rfl ?_
    | refine PickW.w rfl ?_)
    refine LoopW.to (LoopW.upP g (fun k => [(3, .mp ⟨0, 11, 0⟩), (12, LR l), (13, I l.length), (14, I k)]) (fun k => [(⟨0, 11, 0⟩, .map (keysL (nmsS (l.take k))))]) (fun k => chkRsG (nmsS (l.take k)) (l.drop k) = R) l.length (fun k hk h0 ih => ?_) 0 (Nat.zero_le _) hR) rfl rfl
    by_cases hlt : k < l.length
    · rw [List.drop_eq_getElem_cons hlt, chkRsG, ← nmsS_succ hlt, rstE] at h0
      have ih := ih hlt
      have hf := find_keys l[k].nm (nmsS (l.take k))
      have hc := s_named g l[k].nm
      have hs := fun hd : l[k].nm ∉ nmsS (l.take k) => set_keys l[k].nm (nmsS (l.take k)) hd
      rw [← nmsS_succ hlt] at hs
      have hw : ∀ b, l[k].gr = b → Fc E n_message_within [I l[k].mi, I 0, I (if b = true then 1439 else 0)] (I (rng l[k].mi 0 (if l[k].gr = true then 1439 else 0))) := fun b hb => by rw [hb]; exact s_mwithin g _ _ _
      generalize hb : l[k].gr = b at *
      have hw := hw b rfl
      generalize hrg : rng l[k].mi 0 (if b = true then 1439 else 0) = rg at *
      by_cases hd : l[k].nm ∈ nmsS (l.take k)
      · rw [if_pos hd] at hf h0
        have hz : ¬ firstI [nmE l[k].nm, rg, 9] = 0 := fun h => by
          have := (firstI_zero _).1 h 9 (by simp)
          cases this
        rw [if_neg hz] at h0
        rw [← h0]
        clear hrg hs ih h0
        cases b
        all_goals repeat' ((conv => whnf); first
        | refine Br.tt ?_
        | refine Br.ff ?_
        | refine Need.w ?_
        | refine Wr.w ?_
        | refine Cmp.t ?_
        | refine Cmp.f ?_
        | refine Rem.w ?_
        | refine Quo.w ?_
        | refine PickV.now rfl ?_
        | refine Pick.now rfl ?_
        | refine Chk.mk rfl ?_
        | refine PickW.w rfl ?_
          | (refine PickW.rec Rst.cells_length k rfl hlt ?_)
          | (rw [hb])
          | (refine Find.mk ⟨_, hf, ?_⟩)
          | (refine CallI.of hc ?_)
          | (refine CallI.of hw ?_)
          | (refine CallI.of (s_mwhen g _ _) ?_)
          | (refine CallI.of (s_mfirst3 g _ _ _) ?_)
          | (refine Cmp.ff hz ?_)
          | (refine Ret.mk rfl))
      · rw [if_neg hd] at hf h0
        have hs := hs hd
        by_cases hz : firstI [nmE l[k].nm, rg, 0] = 0
        · rw [if_pos hz] at h0
          have ih := ih h0
          clear hrg h0
          cases b
          all_goals repeat' ((conv => whnf); first
          | refine Br.tt ?_
          | refine Br.ff ?_
          | refine Need.w ?_
          | refine Wr.w ?_
          | refine Cmp.t ?_
          | refine Cmp.f ?_
          | refine Rem.w ?_
          | refine Quo.w ?_
          | refine PickV.now rfl ?_
          | refine Pick.now rfl ?_
          | refine Chk.mk rfl ?_
          | refine PickW.w rfl ?_
            | (refine PickW.rec Rst.cells_length k rfl hlt ?_)
            | (rw [hb])
            | (refine Find.mk ⟨_, hf, ?_⟩)
            | (refine SetW.mk ⟨_, hs, ?_⟩)
            | (refine CallI.of hc ?_)
            | (refine CallI.of hw ?_)
            | (refine CallI.of (s_mwhen g _ _) ?_)
            | (refine CallI.of (s_mfirst3 g _ _ _) ?_)
            | (refine Cmp.tt hz ?_)
            | (simp only [Evl.idsAll, Evl.idsO, ids_keys, List.nil_append])
            | (refine LoopW.to ih rfl rfl))
        · rw [if_neg hz] at h0
          rw [← h0]
          clear hrg hs ih h0
          cases b
          all_goals repeat' ((conv => whnf); first
          | refine Br.tt ?_
          | refine Br.ff ?_
          | refine Need.w ?_
          | refine Wr.w ?_
          | refine Cmp.t ?_
          | refine Cmp.f ?_
          | refine Rem.w ?_
          | refine Quo.w ?_
          | refine PickV.now rfl ?_
          | refine Pick.now rfl ?_
          | refine Chk.mk rfl ?_
          | refine PickW.w rfl ?_
            | (refine PickW.rec Rst.cells_length k rfl hlt ?_)
            | (rw [hb])
            | (refine Find.mk ⟨_, hf, ?_⟩)
            | (refine CallI.of hc ?_)
            | (refine CallI.of hw ?_)
            | (refine CallI.of (s_mwhen g _ _) ?_)
            | (refine CallI.of (s_mfirst3 g _ _ _) ?_)
            | (refine Cmp.ff hz ?_)
            | (refine Ret.mk rfl))
    · rw [List.drop_eq_nil_of_le (by omega), chkRsG] at h0
      rw [← h0]
      repeat' ((conv => whnf); first
      | refine Br.tt ?_
      | refine Br.ff ?_
      | refine Need.w ?_
      | refine Wr.w ?_
      | refine Cmp.t ?_
      | refine Cmp.f ?_
      | refine Rem.w ?_
      | refine Quo.w ?_
      | refine PickV.now rfl ?_
      | refine Pick.now rfl ?_
      | refine Chk.mk rfl ?_
      | refine PickW.w rfl ?_
        | (refine Ret.mk rfl))
set_option maxHeartbeats 4000000 in
theorem s_checkBoth (l : List Rqt) (rs : List Rst) (hl : l.length ≤ 1000000) (hr : rs.length ≤ 1000000) : Fc E n_message_checkBoth [LQ l, LR rs] (I (chkBo l rs)) := by
  have h1 := s_checkRequests g l hl
  have h2 := s_checkResults g rs hr
  have h3 : (if l.length = rs.length then (0 : Int) else 2) = if (!decide (l.length = rs.length)) = true then 2 else 0 := by
    by_cases h : l.length = rs.length <;> simp [h]
  unfold chkBo
  refine g.fn code_message_checkBoth rfl ?_
  by_cases hz : chk3 l rs = 0
  · rw [if_pos hz]
    unfold chk3 at hz
    have hn : l.length = rs.length := Decidable.byContradiction fun hn => by
      rw [if_neg hn, firstI_zero] at hz
      exact absurd (hz 2 (by simp)) (by decide)
    rw [if_pos hn] at hz
    generalize hR : cbG l rs = R
    repeat' ((conv => whnf); first
    | refine Br.tt ?_
    | refine Br.ff ?_
    | refine Need.w ?_
    | refine Wr.w ?_
    | refine Cmp.t ?_
    | refine Cmp.f ?_
    | refine Rem.w ?_
    | refine Quo.w ?_
    | refine PickV.now rfl ?_
    | refine Pick.now rfl ?_
    | refine Chk.mk rfl ?_
    | refine PickW.w rfl ?_
      | (apply CallI.of; assumption)
      | (refine CallI.of (s_mwhen g _ _) ?_)
      | (refine CallI.of (s_mfirst3 g _ _ _) ?_)
      | (refine Cmp.tt hz ?_))
    clear h1 h2 h3 hz
    refine LoopW.to (LoopW.upP g (fun k => [(0, LQ l), (23, LR rs), (24, I rs.length), (25, I k)]) (fun _ => []) (fun k => cbG (l.drop k) (rs.drop k) = R) rs.length (fun k hk h0 ih => ?_) 0 (Nat.zero_le _) hR) rfl rfl
    by_cases hlt : k < rs.length
    · have hlt' : k < l.length := by omega
      rw [cbG_at hlt' hlt] at h0
      have ih := ih hlt
      by_cases he : rs[k].nm = l[k].nm
      · rw [if_pos he] at h0
        have ih := ih h0
        repeat' ((conv => whnf); first
        | refine Br.tt ?_
        | refine Br.ff ?_
        | refine Need.w ?_
        | refine Wr.w ?_
        | refine Cmp.t ?_
        | refine Cmp.f ?_
        | refine Rem.w ?_
        | refine Quo.w ?_
        | refine PickV.now rfl ?_
        | refine Pick.now rfl ?_
        | refine Chk.mk rfl ?_
        | refine PickW.w rfl ?_
          | (refine PickW.rec Rst.cells_length k rfl hlt ?_)
          | (refine Pick.rec Rqt.cells_length k rfl hlt' rfl ?_)
          | (refine Cmp.tt he ?_)
          | (refine LoopW.to ih rfl rfl))
      · rw [if_neg he] at h0
        rw [← h0]
        repeat' ((conv => whnf); first
        | refine Br.tt ?_
        | refine Br.ff ?_
        | refine Need.w ?_
        | refine Wr.w ?_
        | refine Cmp.t ?_
        | refine Cmp.f ?_
        | refine Rem.w ?_
        | refine Quo.w ?_
        | refine PickV.now rfl ?_
        | refine Pick.now rfl ?_
        | refine Chk.mk rfl ?_
        | refine PickW.w rfl ?_
          | (refine PickW.rec Rst.cells_length k rfl hlt ?_)
          | (refine Pick.rec Rqt.cells_length k rfl hlt' rfl ?_)
          | (refine Cmp.ff he ?_)
          | (refine Ret.mk rfl))
    · rw [List.drop_eq_nil_of_le (by omega), List.drop_eq_nil_of_le (by omega), cbG] at h0
      rw [← h0]
      repeat' ((conv => whnf); first
      | refine Br.tt ?_
      | refine Br.ff ?_
      | refine Need.w ?_
      | refine Wr.w ?_
      | refine Cmp.t ?_
      | refine Cmp.f ?_
      | refine Rem.w ?_
      | refine Quo.w ?_
      | refine PickV.now rfl ?_
      | refine Pick.now rfl ?_
      | refine Chk.mk rfl ?_
      | refine PickW.w rfl ?_
        | (refine Ret.mk rfl))
      all_goals simp
  · rw [if_neg hz]
    unfold chk3 at hz ⊢
    by_cases hn : l.length = rs.length
    · rw [if_pos hn] at hz ⊢
      repeat' ((conv => whnf); first
      | refine Br.tt ?_
      | refine Br.ff ?_
      | refine Need.w ?_
      | refine Wr.w ?_
      | refine Cmp.t ?_
      | refine Cmp.f ?_
      | refine Rem.w ?_
      | refine Quo.w ?_
      | refine PickV.now rfl ?_
      | refine Pick.now rfl ?_
      | refine Chk.mk rfl ?_
      | refine PickW.w rfl ?_
        | (apply CallI.of; assumption)
        | (refine CallI.of (s_mwhen g _ _) ?_)
        | (refine CallI.of (s_mfirst3 g _ _ _) ?_)
        | (refine Cmp.ff hz ?_)
        | (refine Ret.mk rfl))
    · rw [if_neg hn] at hz ⊢
      repeat' ((conv => whnf); first
      | refine Br.tt ?_
      | refine Br.ff ?_
      | refine Need.w ?_
      | refine Wr.w ?_
      | refine Cmp.t ?_
      | refine Cmp.f ?_
      | refine Rem.w ?_
      | refine Quo.w ?_
      | refine PickV.now rfl ?_
      | refine Pick.now rfl ?_
      | refine Chk.mk rfl ?_
      | refine PickW.w rfl ?_
        | (apply CallI.of; assumption)
        | (refine CallI.of (s_mwhen g _ _) ?_)
        | (refine CallI.of (s_mfirst3 g _ _ _) ?_)
        | (refine Cmp.ff hz ?_)
        | (refine Ret.mk rfl))
theorem s_mmoved (q : Rqt) (m : Int) : Fc E n_message_moved [Rqv q, I m] (Rqv (movQ q m)) := by
  refine g.fn code_message_moved rfl ?_
  repeat' ((conv => whnf); first
  | refine Br.tt ?_
  | refine Br.ff ?_
  | refine Need.w ?_
  | refine Wr.w ?_
  | refine Cmp.t ?_
  | refine Cmp.f ?_
  | refine Rem.w ?_
  | refine Quo.w ?_
  | refine PickV.now rfl ?_
  | refine Pick.now rfl ?_
  | refine Chk.mk rfl ?_
  | refine PickW.w rfl ?_
    | (refine Ret.mk rfl))
theorem r_mmoved (q : Rqt) (m : Int) : Fc E n_ref02_moved [Rqv q, I m] (Rqv (movQ q m)) := by
  refine g.fn code_ref02_moved rfl ?_
  repeat' ((conv => whnf); first
  | refine Br.tt ?_
  | refine Br.ff ?_
  | refine Need.w ?_
  | refine Wr.w ?_
  | refine Cmp.t ?_
  | refine Cmp.f ?_
  | refine Rem.w ?_
  | refine Quo.w ?_
  | refine PickV.now rfl ?_
  | refine Pick.now rfl ?_
  | refine Chk.mk rfl ?_
  | refine PickW.w rfl ?_
    | (refine Ret.mk rfl))
end
open Go Go.Evl
set_option maxRecDepth 100000
section
variable {E : Oracle} (g : Good E)
include g
set_option maxHeartbeats 16000000 in
theorem r_CheckResults (l : List Rst) : Fc E n_ref02_CheckResults [LR l] (I (chkRss l)) := by
  refine g.fn code_ref02_CheckResults rfl ?_
  unfold chkRss
  by_cases hn : 64 < l.length
  · rw [if_pos hn]
    repeat' ((conv => whnf); first
    | refine Br.tt ?_
    | refine Br.ff ?_
    | refine Need.w ?_
    | refine Wr.w ?_
    | refine Cmp.t ?_
    | refine Cmp.f ?_
    | refine Rem.w ?_
    | refine Quo.w ?_
    | refine PickV.now rfl ?_
    | refine Pick.now rfl ?_
    | refine Chk.mk rfl ?_
    | refine PickW.w rfl ?_
      | (refine Ret.mk rfl))
  · rw [if_neg hn]
    generalize hR : chkRsG [] l = R
    repeat' ((conv => whnf); first
    | refine Br.tt ?_
    | refine Br.ff ?_
    | refine Need.w ?_
    | refine Wr.w ?_
    | refine Cmp.t ?_
    | refine Cmp.f ?_
    | refine Rem.w ?_
    | refine Quo.w ?_
    | refine PickV.now rfl ?_
    | refine Pick.now rfl ?_
    | refine Chk.mk rfl ?_
    | refine PickW.w rfl ?_)
    refine LoopW.to (LoopW.upP g (fun k => [(0, LR l), (3, I k)]) (fun _ => []) (fun k => chkRsG (nmsS (l.take k)) (l.drop k) = R) l.length (fun k hk h0 ih => ?_) 0 (Nat.zero_le _) hR) rfl rfl
    by_cases hlt : k < l.length
    · rw [List.drop_eq_getElem_cons hlt, chkRsG, ← nmsS_succ hlt, rstE_eq] at h0
      have ih := ih hlt
      have hc := r_IsName g l[k].nm
      by_cases hnm : isNameB l[k].nm = true
      · rw [hnm] at hc
        rw [if_pos hnm] at h0
        have bad : rng l[k].mi 0 (if l[k].gr = true then 1439 else 0) ≠ 0 → R = 3 := fun hr => by
          rw [if_neg hr, if_neg (by decide)] at h0
          exact h0.symm
        have go : rng l[k].mi 0 (if l[k].gr = true then 1439 else 0) = 0 → (l[k].nm ∈ nmsS (l.take k) → R = 9) ∧ (l[k].nm ∉ nmsS (l.take k) → chkRsG (nmsS (l.take (k + 1))) (l.drop (k + 1)) = R) := fun hr => by
          rw [if_pos hr] at h0
          refine ⟨fun hd => ?_, fun hd => ?_⟩
          · rw [if_pos hd, if_neg (by decide)] at h0
            exact h0.symm
          · rw [if_neg hd, if_pos rfl] at h0
            exact h0
        clear h0
        cases hb : l[k].gr
        · rw [hb, if_neg (by decide)] at bad go
          by_cases hm : l[k].mi = 0
          · have go := go (rng_zero.2 (by omega))
            clear bad
            repeat' ((conv => whnf); first
            | refine Br.tt ?_
            | refine Br.ff ?_
            | refine Need.w ?_
            | refine Wr.w ?_
            | refine Cmp.t ?_
            | refine Cmp.f ?_
            | refine Rem.w ?_
            | refine Quo.w ?_
            | refine PickV.now rfl ?_
            | refine Pick.now rfl ?_
            | refine Chk.mk rfl ?_
            | refine PickW.w rfl ?_
              | (refine Pick.rec Rst.cells_length k rfl hlt rfl ?_)
              | (rw [hb])
              | (refine CallI.of hc ?_))
            refine LoopW.to (LoopW.upP g (fun j => [(0, LR l), (3, I k), (4, I j)]) (fun _ => []) (fun j => ∀ i (h : i < l.length), i < j → ¬ l[i].nm = l[k].nm) k (fun j hj j0 jh => ?_) 0 (Nat.zero_le _) (fun j _ hj => absurd hj (Nat.not_lt_zero _))) rfl rfl
            by_cases hjk : j < k
            · have hj' : j < l.length := by omega
              by_cases hd : l[j].nm = l[k].nm
              · have r9 := go.1 (by
                  unfold nmsS
                  rw [List.mem_map]
                  exact ⟨l[j], by rw [List.mem_take_iff_getElem]; exact ⟨j, by omega, rfl⟩, hd⟩)
                subst r9
                repeat' ((conv => whnf); first
                | refine Br.tt ?_
                | refine Br.ff ?_
                | refine Need.w ?_
                | refine Wr.w ?_
                | refine Cmp.t ?_
                | refine Cmp.f ?_
                | refine Rem.w ?_
                | refine Quo.w ?_
                | refine PickV.now rfl ?_
                | refine Pick.now rfl ?_
                | refine Chk.mk rfl ?_
                | refine PickW.w rfl ?_
                  | (refine Pick.rec Rst.cells_length j rfl hj' rfl ?_)
                  | (refine Pick.rec Rst.cells_length k rfl hlt rfl ?_)
                  | (refine Cmp.tt hd ?_)
                  | (refine Ret.mk rfl))
              · have jh := jh hjk fun i h hi => by
                  by_cases e : i = j
                  · subst e; exact hd
                  · exact j0 i h (by omega)
                repeat' ((conv => whnf); first
                | refine Br.tt ?_
                | refine Br.ff ?_
                | refine Need.w ?_
                | refine Wr.w ?_
                | refine Cmp.t ?_
                | refine Cmp.f ?_
                | refine Rem.w ?_
                | refine Quo.w ?_
                | refine PickV.now rfl ?_
                | refine Pick.now rfl ?_
                | refine Chk.mk rfl ?_
                | refine PickW.w rfl ?_
                  | (refine Pick.rec Rst.cells_length j rfl hj' rfl ?_)
                  | (refine Pick.rec Rst.cells_length k rfl hlt rfl ?_)
                  | (refine Cmp.ff hd ?_)
                  | (refine LoopW.to jh rfl rfl))
            · have ih := ih (go.2 (by
                unfold nmsS
                rw [List.mem_map]
                rintro ⟨x, hx, e⟩
                rw [List.mem_take_iff_getElem] at hx
                obtain ⟨i, hi, rfl⟩ := hx
                exact j0 i (by omega) (by omega) e))
              repeat' ((conv => whnf); first
              | refine Br.tt ?_
              | refine Br.ff ?_
              | refine Need.w ?_
              | refine Wr.w ?_
              | refine Cmp.t ?_
              | refine Cmp.f ?_
              | refine Rem.w ?_
              | refine Quo.w ?_
              | refine PickV.now rfl ?_
              | refine Pick.now rfl ?_
              | refine Chk.mk rfl ?_
              | refine PickW.w rfl ?_
                | (refine LoopW.to ih rfl rfl))
          · have b3 := bad fun h => hm (by have := rng_zero.1 h; omega)
            subst b3
            repeat' ((conv => whnf); first
            | refine Br.tt ?_
            | refine Br.ff ?_
            | refine Need.w ?_
            | refine Wr.w ?_
            | refine Cmp.t ?_
            | refine Cmp.f ?_
            | refine Rem.w ?_
            | refine Quo.w ?_
            | refine PickV.now rfl ?_
            | refine Pick.now rfl ?_
            | refine Chk.mk rfl ?_
            | refine PickW.w rfl ?_
              | (refine Pick.rec Rst.cells_length k rfl hlt rfl ?_)
              | (rw [hb])
              | (refine CallI.of hc ?_)
              | (refine Ret.mk rfl))
        · rw [hb, if_pos rfl] at bad go
          by_cases hm : 0 ≤ l[k].mi ∧ l[k].mi ≤ 1439
          · have go := go (rng_zero.2 hm)
            clear bad
            repeat' ((conv => whnf); first
            | refine Br.tt ?_
            | refine Br.ff ?_
            | refine Need.w ?_
            | refine Wr.w ?_
            | refine Cmp.t ?_
            | refine Cmp.f ?_
            | refine Rem.w ?_
            | refine Quo.w ?_
            | refine PickV.now rfl ?_
            | refine Pick.now rfl ?_
            | refine Chk.mk rfl ?_
            | refine PickW.w rfl ?_
              | (refine Pick.rec Rst.cells_length k rfl hlt rfl ?_)
              | (rw [hb])
              | (refine CallI.of hc ?_))
            refine LoopW.to (LoopW.upP g (fun j => [(0, LR l), (3, I k), (4, I j)]) (fun _ => []) (fun j => ∀ i (h : i < l.length), i < j → ¬ l[i].nm = l[k].nm) k (fun j hj j0 jh => ?_) 0 (Nat.zero_le _) (fun j _ hj => absurd hj (Nat.not_lt_zero _))) rfl rfl
            by_cases hjk : j < k
            · have hj' : j < l.length := by omega
              by_cases hd : l[j].nm = l[k].nm
              · have r9 := go.1 (by
                  unfold nmsS
                  rw [List.mem_map]
                  exact ⟨l[j], by rw [List.mem_take_iff_getElem]; exact ⟨j, by omega, rfl⟩, hd⟩)
                subst r9
                repeat' ((conv => whnf); first
                | refine Br.tt ?_
                | refine Br.ff ?_
                | refine Need.w ?_
                | refine Wr.w ?_
                | refine Cmp.t ?_
                | refine Cmp.f ?_
                | refine Rem.w ?_
                | refine Quo.w ?_
                | refine PickV.now rfl ?_
                | refine Pick.now rfl ?_
                | refine Chk.mk rfl ?_
                | refine PickW.w rfl ?_
                  | (refine Pick.rec Rst.cells_length j rfl hj' rfl ?_)
                  | (refine Pick.rec Rst.cells_length k rfl hlt rfl ?_)
                  | (refine Cmp.tt hd ?_)
                  | (refine Ret.mk rfl))
              · have jh := jh hjk fun i h hi => by
                  by_cases e : i = j
                  · subst e; exact hd
                  · exact j0 i h (by omega)
                repeat' ((conv => whnf); first
                | refine Br.tt ?_
                | refine Br.ff ?_
                | refine Need.w ?_
                | refine Wr.w ?_
                | refine Cmp.t ?_
                | refine Cmp.f ?_
                | refine Rem.w ?_
                | refine Quo.w ?_
                | refine PickV.now rfl ?_
                | refine Pick.now rfl ?_
                | refine Chk.mk rfl ?_
                | refine PickW.w rfl ?_
                  | (refine Pick.rec Rst.cells_length j rfl hj' rfl ?_)
                  | (refine Pick.rec Rst.cells_length k rfl hlt rfl ?_)
                  | (refine Cmp.ff hd ?_)
                  | (refine LoopW.to jh rfl rfl))
            · have ih := ih (go.2 (by
                unfold nmsS
                rw [List.mem_map]
                rintro ⟨x, hx, e⟩
                rw [List.mem_take_iff_getElem] at hx
                obtain ⟨i, hi, rfl⟩ := hx
                exact j0 i (by omega) (by omega) e))
              repeat' ((conv => whnf); first
              | refine Br.tt ?_
              | refine Br.ff ?_
              | refine Need.w ?_
              | refine Wr.w ?_
              | refine Cmp.t ?_
              | refine Cmp.f ?_
              | refine Rem.w ?_
              | refine Quo.w ?_
              | refine PickV.now rfl ?_
              | refine Pick.now rfl ?_
              | refine Chk.mk rfl ?_
              | refine PickW.w rfl ?_
                | (refine LoopW.to ih rfl rfl))
          · have b3 := bad fun h => hm (rng_zero.1 h)
            subst b3
            rcases (by omega : l[k].mi < 0 ∨ 1439 < l[k].mi) with hm | hm
            all_goals repeat' ((conv => whnf); first
            | refine Br.tt ?_
            | refine Br.ff ?_
            | refine Need.w ?_
            | refine Wr.w ?_
            | refine Cmp.t ?_
            | refine Cmp.f ?_
            | refine Rem.w ?_
            | refine Quo.w ?_
            | refine PickV.now rfl ?_
            | refine Pick.now rfl ?_
            | refine Chk.mk rfl ?_
            | refine PickW.w rfl ?_
              | (refine Pick.rec Rst.cells_length k rfl hlt rfl ?_)
              | (rw [hb])
              | (refine CallI.of hc ?_)
              | (refine Ret.mk rfl))
      · rw [if_neg hnm, if_neg (by decide)] at h0
        rw [← h0]
        rw [Bool.not_eq_true] at hnm
        rw [hnm] at hc
        repeat' ((conv => whnf); first
        | refine Br.tt ?_
        | refine Br.ff ?_
        | refine Need.w ?_
        | refine Wr.w ?_
        | refine Cmp.t ?_
        | refine Cmp.f ?_
        | refine Rem.w ?_
        | refine Quo.w ?_
        | refine PickV.now rfl ?_
        | refine Pick.now rfl ?_
        | refine Chk.mk rfl ?_
        | refine PickW.w rfl ?_
          | (refine Pick.rec Rst.cells_length k rfl hlt rfl ?_)
          | (refine CallI.of hc ?_)
          | (refine Ret.mk rfl))
    · rw [List.drop_eq_nil_of_le (by omega), chkRsG] at h0
      rw [← h0]
      repeat' ((conv => whnf); first
      | refine Br.tt ?_
      | refine Br.ff ?_
      | refine Need.w ?_
      | refine Wr.w ?_
      | refine Cmp.t ?_
      | refine Cmp.f ?_
      | refine Rem.w ?_
      | refine Quo.w ?_
      | refine PickV.now rfl ?_
      | refine Pick.now rfl ?_
      | refine Chk.mk rfl ?_
      | refine PickW.w rfl ?_
        | (refine Ret.mk rfl))
set_option maxHeartbeats 8000000 in
theorem r_CheckBoth (l : List Rqt) (rs : List Rst) (hl : l.length ≤ 1000000) : Fc E n_ref02_CheckBoth [LQ l, LR rs] (I (chkBo l rs)) := by
  have h1 := r_CheckRequests g l hl
  have h2 := r_CheckResults g rs
  have h3 := r_First2 g (chkRqs l) (chkRss rs)
  have e3 : chk3 l rs = if firstI [chkRqs l, chkRss rs] = 0 then (if l.length = rs.length then 0 else 2) else firstI [chkRqs l, chkRss rs] := by
    unfold chk3
    generalize chkRqs l = a
    generalize chkRss rs = b
    by_cases ha : a = 0 <;> by_cases hb : b = 0 <;> simp [firstI, ha, hb]
  unfold chkBo
  rw [e3]
  generalize firstI [chkRqs l, chkRss rs] = e at *
  refine g.fn code_ref02_CheckBoth rfl ?_
  by_cases hz : e = 0
  · subst hz
    rw [if_pos rfl]
    by_cases hn : l.length = rs.length
    · rw [if_pos hn, if_pos rfl]
      generalize hR : cbG l rs = R
      repeat' ((conv => whnf); first
      | refine Br.tt ?_
      | refine Br.ff ?_
      | refine Need.w ?_
      | refine Wr.w ?_
      | refine Cmp.t ?_
      | refine Cmp.f ?_
      | refine Rem.w ?_
      | refine Quo.w ?_
      | refine PickV.now rfl ?_
      | refine Pick.now rfl ?_
      | refine Chk.mk rfl ?_
      | refine PickW.w rfl ?_
        | (apply CallI.of; assumption))
      clear h1 h2 h3 e3
      refine LoopW.to (LoopW.upP g (fun k => [(0, LQ l), (1, LR rs), (5, I 0), (6, I k)]) (fun _ => []) (fun k => cbG (l.drop k) (rs.drop k) = R) l.length (fun k hk h0 ih => ?_) 0 (Nat.zero_le _) hR) rfl rfl
      by_cases hlt : k < l.length
      · have hlt' : k < rs.length := by omega
        rw [cbG_at hlt hlt'] at h0
        have ih := ih hlt
        by_cases he : rs[k].nm = l[k].nm
        · rw [if_pos he] at h0
          have ih := ih h0
          repeat' ((conv => whnf); first
          | refine Br.tt ?_
          | refine Br.ff ?_
          | refine Need.w ?_
          | refine Wr.w ?_
          | refine Cmp.t ?_
          | refine Cmp.f ?_
          | refine Rem.w ?_
          | refine Quo.w ?_
          | refine PickV.now rfl ?_
          | refine Pick.now rfl ?_
          | refine Chk.mk rfl ?_
          | refine PickW.w rfl ?_
            | (refine Pick.rec Rst.cells_length k rfl hlt' rfl ?_)
            | (refine Pick.rec Rqt.cells_length k rfl hlt rfl ?_)
            | (refine Cmp.tt he.symm ?_)
            | (refine LoopW.to ih rfl rfl))
        · rw [if_neg he] at h0
          rw [← h0]
          clear ih
          by_cases hk1 : k + 1 < l.length
          all_goals repeat' ((conv => whnf); first
          | refine Br.tt ?_
          | refine Br.ff ?_
          | refine Need.w ?_
          | refine Wr.w ?_
          | refine Cmp.t ?_
          | refine Cmp.f ?_
          | refine Rem.w ?_
          | refine Quo.w ?_
          | refine PickV.now rfl ?_
          | refine Pick.now rfl ?_
          | refine Chk.mk rfl ?_
          | refine PickW.w rfl ?_
            | (refine Pick.rec Rst.cells_length k rfl hlt' rfl ?_)
            | (refine Pick.rec Rqt.cells_length k rfl hlt rfl ?_)
            | (refine Cmp.ff (fun h => he h.symm) ?_)
            | (refine LoopW.step g.lim ?_)
            | (refine Ret.mk rfl))
      · rw [List.drop_eq_nil_of_le (by omega), List.drop_eq_nil_of_le (by omega), cbG] at h0
        rw [← h0]
        repeat' ((conv => whnf); first
        | refine Br.tt ?_
        | refine Br.ff ?_
        | refine Need.w ?_
        | refine Wr.w ?_
        | refine Cmp.t ?_
        | refine Cmp.f ?_
        | refine Rem.w ?_
        | refine Quo.w ?_
        | refine PickV.now rfl ?_
        | refine Pick.now rfl ?_
        | refine Chk.mk rfl ?_
        | refine PickW.w rfl ?_
          | (refine Ret.mk rfl))
        all_goals simp
    · rw [if_neg hn, if_neg (by decide)]
      by_cases hk1 : 0 < l.length
      all_goals repeat' ((conv => whnf); first
      | refine Br.tt ?_
      | refine Br.ff ?_
      | refine Need.w ?_
      | refine Wr.w ?_
      | refine Cmp.t ?_
      | refine Cmp.f ?_
      | refine Rem.w ?_
      | refine Quo.w ?_
      | refine PickV.now rfl ?_
      | refine Pick.now rfl ?_
      | refine Chk.mk rfl ?_
      | refine PickW.w rfl ?_
        | (apply CallI.of; assumption)
        | (refine LoopW.step g.lim ?_)
        | (refine Ret.mk rfl))
  · rw [if_neg hz, if_neg hz]
    by_cases hk1 : 0 < l.length
    all_goals repeat' ((conv => whnf); first
    | refine Br.tt ?_
    | refine Br.ff ?_
    | refine Need.w ?_
    | refine Wr.w ?_
    | refine Cmp.t ?_
    | refine Cmp.f ?_
    | refine Rem.w ?_
    | refine Quo.w ?_
    | refine PickV.now rfl ?_
    | refine Pick.now rfl ?_
    | refine Chk.mk rfl ?_
    | refine PickW.w rfl ?_
      | (apply CallI.of; assumption)
      | (refine Cmp.ff hz ?_)
      | (refine LoopW.step g.lim ?_)
      | (refine Ret.mk rfl))
end
end Go.Proofs.YtmjifdpcoaeehaaGreatDoor.Co
