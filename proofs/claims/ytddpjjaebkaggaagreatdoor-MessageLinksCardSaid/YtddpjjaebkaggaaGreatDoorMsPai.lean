
/-
  Linked requests: Pairs, by the program and by the reference.
-/
import Derived.Test.YtddpjjaebkaggaaGreatDoorMsPap
namespace Go.Proofs.YtddpjjaebkaggaaGreatDoor.Co
open Go Go.Evl
set_option maxRecDepth 100000
structure PrS where
  k : Nat
  acc : List (Nat × Nat)
section
variable {E : Oracle} (g : Good E)
include g
set_option maxHeartbeats 4000000 in
theorem in_link (l : List Rqt) (q : Rqt) (n : Nat) (xs : List D) (hl : l.length ≤ 1000000) {K : V → Mem → Prop}
    (hK : K (I (atG q.li 0 l)) [(⟨0, 2, 0⟩, .row false ty_2_int 2 0 []), (⟨0, 5, 0⟩, .row false ty_2_int 2 n xs), (⟨0, 7, 0⟩, .cells ty_api_Request (q.cells.map V.d))]) :
    In E 1 n_slices_IndexFunc_Lapi_Request_api_Request [LQ l, .fn n_message_Pairs_1 [] [.ptr ⟨0, 7, 0⟩ 0 0]] [(⟨0, 2, 0⟩, .row false ty_2_int 2 0 []), (⟨0, 5, 0⟩, .row false ty_2_int 2 n xs), (⟨0, 7, 0⟩, .cells ty_api_Request (q.cells.map V.d))] K := by
  generalize hA : atG q.li 0 l = A at *
  refine In.enter g.lim rfl code_slices_IndexFunc_Lapi_Request_api_Request ?_
  repeat' ((conv => whnf); first
  | refine Br.tt ?_
  | refine Br.ff ?_
  | refine Need.w ?_
  | refine Wr.w ?_
  | refine Cmp.t ?_
  | refine Cmp.f ?_
  | refine Rem.w ?_
  | refine Quo.w ?_
  | refine PickV.now rfl ?_
  | refine Pick.now rfl ?_
  | refine Chk.mk rfl ?_
  | refine PickW.w rfl ?_)
  refine LoopW.to (LoopW.upP g (fun k => [(0, LQ l), (1, .fn n_message_Pairs_1 [] [.ptr ⟨0, 7, 0⟩ 0 0]), (7, I l.length), (8, I k)]) (fun _ => _) (fun k => atG q.li k (l.drop k) = A) l.length (fun k hk h0 ih => ?_) 0 (Nat.zero_le _) hA) rfl rfl
  by_cases hlt : k < l.length
  · rw [List.drop_eq_getElem_cons hlt, atG] at h0
    have ih := ih hlt
    by_cases hd : l[k].nm = q.li
    · rw [if_pos hd] at h0
      subst h0
      repeat' ((conv => whnf); first
      | refine Br.tt ?_
      | refine Br.ff ?_
      | refine Need.w ?_
      | refine Wr.w ?_
      | refine Cmp.t ?_
      | refine Cmp.f ?_
      | refine Rem.w ?_
      | refine Quo.w ?_
      | refine PickV.now rfl ?_
      | refine Pick.now rfl ?_
      | refine Chk.mk rfl ?_
      | refine PickW.w rfl ?_
        | (refine PickW.rec Rqt.cells_length k rfl hlt ?_)
        | (refine In.enter g.lim rfl code_message_Pairs_1 ?_)
        | (refine Cmp.tt hd ?_)
        | (exact hK))
    · rw [if_neg hd] at h0
      have ih := ih h0
      repeat' ((conv => whnf); first
      | refine Br.tt ?_
      | refine Br.ff ?_
      | refine Need.w ?_
      | refine Wr.w ?_
      | refine Cmp.t ?_
      | refine Cmp.f ?_
      | refine Rem.w ?_
      | refine Quo.w ?_
      | refine PickV.now rfl ?_
      | refine Pick.now rfl ?_
      | refine Chk.mk rfl ?_
      | refine PickW.w rfl ?_
        | (refine PickW.rec Rqt.cells_length k rfl hlt ?_)
        | (refine In.enter g.lim rfl code_message_Pairs_1 ?_)
        | (refine Cmp.ff hd ?_)
        | (refine LoopW.to ih rfl rfl))
  · rw [List.drop_eq_nil_of_le (by omega), atG] at h0
    subst h0
    repeat' ((conv => whnf); first
    | refine Br.tt ?_
    | refine Br.ff ?_
    | refine Need.w ?_
    | refine Wr.w ?_
    | refine Cmp.t ?_
    | refine Cmp.f ?_
    | refine Rem.w ?_
    | refine Quo.w ?_
    | refine PickV.now rfl ?_
    | refine Pick.now rfl ?_
    | refine Chk.mk rfl ?_
    | refine PickW.w rfl ?_
      | (exact hK))
set_option maxHeartbeats 16000000 in
theorem s_Pairs (l : List Rqt) (hl : l.length ≤ 1000000) : Fc E n_message_Pairs [LQ l] (if chkRqs l = 0 then .tup [LP (prsG l [] 0 l).1, I (prsG l [] 0 l).2] else .tup [LP [], I (chkRqs l)]) := by
  have h1 := s_checkRequests g l hl
  by_cases hz : chkRqs l = 0
  · rw [if_pos hz]
    rw [hz] at h1
    generalize hP : prsG l [] 0 l = P
    refine g.fn code_message_Pairs rfl ?_
    repeat' ((conv => whnf); first
    | refine Br.tt ?_
    | refine Br.ff ?_
    | refine Need.w ?_
    | refine Wr.w ?_
    | refine Cmp.t ?_
    | refine Cmp.f ?_
    | refine Rem.w ?_
    | refine Quo.w ?_
    | refine PickV.now rfl ?_
    | refine Pick.now rfl ?_
    | refine Chk.mk rfl ?_
    | refine PickW.w rfl ?_
      | (apply CallI.of; assumption))
    clear h1 hz
    refine LoopW.to (LoopW.by g (σ := PrS) (fun s => s.k ≤ l.length ∧ s.acc.length ≤ s.k ∧ prsG l s.acc s.k (l.drop s.k) = P) (fun s => [(0, LQ l), (5, .ref ⟨0, 5, 0⟩ 0 s.acc.length s.acc.length), (15, LQ l), (16, I l.length), (17, I s.k)]) (fun s => [(⟨0, 2, 0⟩, .row false ty_2_int 2 0 []), (⟨0, 5, 0⟩, .row false ty_2_int 2 s.acc.length (s.acc.flatMap cellN))]) (fun s => l.length - s.k) (fun s hs ih => ?_) ⟨0, []⟩ ⟨Nat.zero_le _, Nat.le_refl _, hP⟩) rfl rfl
    obtain ⟨k, acc⟩ := s
    obtain ⟨hk, ha, h3⟩ := hs
    simp only at hk ha h3
    dsimp only
    have hfl := flatR_length cellN 2 cellN_length acc
    by_cases hlt : k < l.length
    · rw [List.drop_eq_getElem_cons hlt] at h3
      have ih := fun (acc' : List (Nat × Nat)) (a : acc'.length ≤ k + 1) (b : prsG l acc' (k + 1) (l.drop (k + 1)) = P) => ih ⟨k + 1, acc'⟩ ⟨hlt, a, b⟩ (by show l.length - (k + 1) < l.length - k; omega)
      by_cases h0 : l[k].li = []
      · rw [prsG, if_pos h0] at h3
        have ih := ih acc (by omega) h3
        repeat' ((conv => whnf); first
        | refine Br.tt ?_
        | refine Br.ff ?_
        | refine Need.w ?_
        | refine Wr.w ?_
        | refine Cmp.t ?_
        | refine Cmp.f ?_
        | refine Rem.w ?_
        | refine Quo.w ?_
        | refine PickV.now rfl ?_
        | refine Pick.now rfl ?_
        | refine Chk.mk rfl ?_
        | refine PickW.w rfl ?_
          | (refine PickW.rec Rqt.cells_length k rfl hlt ?_)
          | (refine Cmp.tt h0 ?_)
          | (refine LoopW.to ih rfl rfl))
      · rcases atG_spec l[k].li l 0 with ⟨a1, _⟩ | ⟨j, hj, a1, _, _⟩
        · rw [prsG_none h0 a1] at h3
          rw [← h3]
          clear ih h3
          repeat' ((conv => whnf); first
          | refine Br.tt ?_
          | refine Br.ff ?_
          | refine Need.w ?_
          | refine Wr.w ?_
          | refine Cmp.t ?_
          | refine Cmp.f ?_
          | refine Rem.w ?_
          | refine Quo.w ?_
          | refine PickV.now rfl ?_
          | refine Pick.now rfl ?_
          | refine Chk.mk rfl ?_
          | refine PickW.w rfl ?_
            | (refine PickW.rec Rqt.cells_length k rfl hlt ?_)
            | (refine Cmp.ff h0 ?_)
            | (refine in_link g l l[k] _ _ hl ?_; rw [a1])
            | (refine Ret.mk rfl))
        · rw [Nat.zero_add] at a1
          rw [prsG_some h0 hj a1] at h3
          by_cases u1 : l[j].li = l[k].nm
          · by_cases u2 : l[j].ki = l[k].ki
            · rw [if_pos (by simp [unfit, u2])] at h3
              rw [← h3]
              clear ih h3
              repeat' ((conv => whnf); first
              | refine Br.tt ?_
              | refine Br.ff ?_
              | refine Need.w ?_
              | refine Wr.w ?_
              | refine Cmp.t ?_
              | refine Cmp.f ?_
              | refine Rem.w ?_
              | refine Quo.w ?_
              | refine PickV.now rfl ?_
              | refine Pick.now rfl ?_
              | refine Chk.mk rfl ?_
              | refine PickW.w rfl ?_
                | (refine PickW.rec Rqt.cells_length k rfl hlt ?_)
                | (refine PickW.rec Rqt.cells_length j rfl hj ?_)
                | (refine Cmp.ff h0 ?_)
                | (refine Cmp.tt u1 ?_)
                | (refine Cmp.tt u2 ?_)
                | (refine in_link g l l[k] _ _ hl ?_; rw [a1])
                | (refine Ret.mk rfl))
            · by_cases u3 : l[j].ca = l[k].ca
              · rw [if_neg (by simp [unfit, u1, u2, u3])] at h3
                by_cases hA : l[k].ki = [65]
                · rw [if_pos hA] at h3
                  have ih := ih _ (by simp; omega) h3
                  simp only at ih
                  rw [List.flatMap_append, List.length_append] at ih
                  repeat' ((conv => whnf); first
                  | refine Br.tt ?_
                  | refine Br.ff ?_
                  | refine Need.w ?_
                  | refine Wr.w ?_
                  | refine Cmp.t ?_
                  | refine Cmp.f ?_
                  | refine Rem.w ?_
                  | refine Quo.w ?_
                  | refine PickV.now rfl ?_
                  | refine Pick.now rfl ?_
                  | refine Chk.mk rfl ?_
                  | refine PickW.w rfl ?_
                    | (refine PickW.rec Rqt.cells_length k rfl hlt ?_)
                    | (refine PickW.rec Rqt.cells_length j rfl hj ?_)
                    | (refine Cmp.ff h0 ?_)
                    | (refine Cmp.tt u1 ?_)
                    | (refine Cmp.ff u2 ?_)
                    | (refine Cmp.tt u3 ?_)
                    | (refine Cmp.tt hA ?_)
                    | (refine in_link g l l[k] _ _ hl ?_; rw [a1])
                    | (refine Need.mk (by simp only [List.length_cons, List.length_nil]; omega) ?_)
                    | (refine LoopW.to ih rfl rfl))
                · rw [if_neg hA] at h3
                  have ih := ih acc (by omega) h3
                  repeat' ((conv => whnf); first
                  | refine Br.tt ?_
                  | refine Br.ff ?_
                  | refine Need.w ?_
                  | refine Wr.w ?_
                  | refine Cmp.t ?_
                  | refine Cmp.f ?_
                  | refine Rem.w ?_
                  | refine Quo.w ?_
                  | refine PickV.now rfl ?_
                  | refine Pick.now rfl ?_
                  | refine Chk.mk rfl ?_
                  | refine PickW.w rfl ?_
                    | (refine PickW.rec Rqt.cells_length k rfl hlt ?_)
                    | (refine PickW.rec Rqt.cells_length j rfl hj ?_)
                    | (refine Cmp.ff h0 ?_)
                    | (refine Cmp.tt u1 ?_)
                    | (refine Cmp.ff u2 ?_)
                    | (refine Cmp.tt u3 ?_)
                    | (refine Cmp.ff hA ?_)
                    | (refine in_link g l l[k] _ _ hl ?_; rw [a1])
                    | (refine LoopW.to ih rfl rfl))
              · rw [if_pos (by simp [unfit, u3])] at h3
                rw [← h3]
                clear ih h3
                repeat' ((conv => whnf); first
                | refine Br.tt ?_
                | refine Br.ff ?_
                | refine Need.w ?_
                | refine Wr.w ?_
                | refine Cmp.t ?_
                | refine Cmp.f ?_
                | refine Rem.w ?_
                | refine Quo.w ?_
                | refine PickV.now rfl ?_
                | refine Pick.now rfl ?_
                | refine Chk.mk rfl ?_
                | refine PickW.w rfl ?_
                  | (refine PickW.rec Rqt.cells_length k rfl hlt ?_)
                  | (refine PickW.rec Rqt.cells_length j rfl hj ?_)
                  | (refine Cmp.ff h0 ?_)
                  | (refine Cmp.tt u1 ?_)
                  | (refine Cmp.ff u2 ?_)
                  | (refine Cmp.ff u3 ?_)
                  | (refine in_link g l l[k] _ _ hl ?_; rw [a1])
                  | (refine Ret.mk rfl))
          · rw [if_pos (by simp [unfit, u1])] at h3
            rw [← h3]
            clear ih h3
            repeat' ((conv => whnf); first
            | refine Br.tt ?_
            | refine Br.ff ?_
            | refine Need.w ?_
            | refine Wr.w ?_
            | refine Cmp.t ?_
            | refine Cmp.f ?_
            | refine Rem.w ?_
            | refine Quo.w ?_
            | refine PickV.now rfl ?_
            | refine Pick.now rfl ?_
            | refine Chk.mk rfl ?_
            | refine PickW.w rfl ?_
              | (refine PickW.rec Rqt.cells_length k rfl hlt ?_)
              | (refine PickW.rec Rqt.cells_length j rfl hj ?_)
              | (refine Cmp.ff h0 ?_)
              | (refine Cmp.ff u1 ?_)
              | (refine in_link g l l[k] _ _ hl ?_; rw [a1])
              | (refine Ret.mk rfl))
    · rw [List.drop_eq_nil_of_le (by omega), prsG] at h3
      rw [← h3]
      repeat' ((conv => whnf); first
      | refine Br.tt ?_
      | refine Br.ff ?_
      | refine Need.w ?_
      | refine Wr.w ?_
      | refine Cmp.t ?_
      | refine Cmp.f ?_
      | refine Rem.w ?_
      | refine Quo.w ?_
      | refine PickV.now rfl ?_
      | refine Pick.now rfl ?_
      | refine Chk.mk rfl ?_
      | refine PickW.w rfl ?_
        | (refine Ret.mk ?_))
      rw [if_pos ⟨rfl, rfl⟩]
  · rw [if_neg hz]
    refine g.fn code_message_Pairs rfl ?_
    repeat' ((conv => whnf); first
    | refine Br.tt ?_
    | refine Br.ff ?_
    | refine Need.w ?_
    | refine Wr.w ?_
    | refine Cmp.t ?_
    | refine Cmp.f ?_
    | refine Rem.w ?_
    | refine Quo.w ?_
    | refine PickV.now rfl ?_
    | refine Pick.now rfl ?_
    | refine Chk.mk rfl ?_
    | refine PickW.w rfl ?_
      | (apply CallI.of; assumption)
      | (refine Cmp.ff hz ?_)
      | (refine Ret.mk rfl))
end
end Go.Proofs.YtddpjjaebkaggaaGreatDoor.Co
