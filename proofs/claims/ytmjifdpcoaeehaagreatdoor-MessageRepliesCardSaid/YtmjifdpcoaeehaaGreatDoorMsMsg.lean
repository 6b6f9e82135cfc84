
/-
  Messages: seasons, heads, and the lines of a message, checked.
-/
import Derived.Test.YtmjifdpcoaeehaaGreatDoorMsWord
import Derived.Test.YtmjifdpcoaeehaaGreatDoorSpGen
namespace Go.Proofs.YtmjifdpcoaeehaaGreatDoor.Co
open Go Go.Evl
def seasB (s : List UInt8) : Bool := decide (s.length = 5 ∧ ((s.getD 0 0).toNat = 83 ∨ (s.getD 0 0).toNat = 87)) && numB (win s 1 (s.length - 1)) 4
def headE (ai se : List UInt8) (da : Int) : Int := firstI [nmE ai, if (!seasB se) = true then 1 else 0, rng da 0 99999]
def msgB (s : List UInt8) : Bool := decide (s = REQ) || decide (s = ANS)
section
variable {E : Oracle} (g : Good E)
include g
set_option maxRecDepth 100000
set_option maxHeartbeats 4000000 in
theorem s_isSeason (s : List UInt8) : Fc E n_message_isSeason [S s] (B (seasB s)) := by
  refine g.fn code_message_isSeason rfl ?_
  unfold seasB
  by_cases h0 : s.length = 5 ∧ ((s.getD 0 0).toNat = 83 ∨ (s.getD 0 0).toNat = 87)
  · rw [decide_eq_true h0, Bool.true_and]
    obtain ⟨hl, hc⟩ := h0
    have hb := toNat_u8 (s.getD 0 0)
    have hwl : (win s 1 (s.length - 1)).length = 4 := by simp [win, hl]
    repeat' ((conv => whnf); first
    | refine Br.tt ?_
    | refine Br.ff ?_
    | refine Need.w ?_
    | refine Wr.w ?_
    | refine Cmp.t ?_
    | refine Cmp.f ?_
    | refine Rem.w ?_
    | refine Quo.w ?_
    | refine PickV.now rfl ?_
    | refine Pick.now rfl ?_
    | refine Chk.mk rfl ?_
    | refine PickW.w rfl ?_
      | (refine PickB.at 0 (by decide) (by omega) ?_)
      | (refine Bounds.mk (by omega) ?_)
      | (refine Cmp.mk (fun h => ?_) (fun h => ?_))
      | (refine Rem.any (by omega) (fun r hr he => ?_))
      | (refine Br.mk (fun h => ?_) (fun h => ?_))
      | (exfalso; omega))
    all_goals
      change LoopW E _ _ _ _ [(20, .it ⟨0, 20, 0⟩)] [(⟨0, 20, 0⟩, .iter (win s 1 (s.length - 1)) 0)] _
      generalize win s 1 (s.length - 1) = t at *
      refine LoopW.to (LoopW.upP g (fun _ => [(20, .it ⟨0, 20, 0⟩)]) (fun k => [(⟨0, 20, 0⟩, .iter t k)]) (fun k => ∀ i, i < k → dg (t.getD i 0)) t.length (fun k hk hp ih => ?_) 0 (Nat.zero_le _) (fun i hi => by omega)) rfl rfl
      by_cases hlt : k < t.length
      · by_cases ha : (t.getD k 0).toNat < 128
        · by_cases hok : dg (t.getD k 0)
          · have ih := ih hlt fun i hi => by
              by_cases e : i = k
              · subst e; exact hok
              · exact hp i (by omega)
            unfold dg at hok
            repeat' ((conv => whnf); first
            | refine Br.tt ?_
            | refine Br.ff ?_
            | refine Need.w ?_
            | refine Wr.w ?_
            | refine Cmp.t ?_
            | refine Cmp.f ?_
            | refine Rem.w ?_
            | refine Quo.w ?_
            | refine PickV.now rfl ?_
            | refine Pick.now rfl ?_
            | refine Chk.mk rfl ?_
            | refine PickW.w rfl ?_
              | (refine NextW.asc hlt ha ?_)
              | (refine Cmp.mk (fun h => ?_) (fun h => ?_))
              | (refine Rem.any (by omega) (fun r hr he => ?_))
              | (refine Br.mk (fun h => ?_) (fun h => ?_))
              | (refine LoopW.to ih rfl rfl)
              | (exfalso; omega))
          · rw [numB_dig (w := 4) hlt hok]
            unfold dg at hok
            repeat' ((conv => whnf); first
            | refine Br.tt ?_
            | refine Br.ff ?_
            | refine Need.w ?_
            | refine Wr.w ?_
            | refine Cmp.t ?_
            | refine Cmp.f ?_
            | refine Rem.w ?_
            | refine Quo.w ?_
            | refine PickV.now rfl ?_
            | refine Pick.now rfl ?_
            | refine Chk.mk rfl ?_
            | refine PickW.w rfl ?_
              | (refine NextW.asc hlt ha ?_)
              | (refine Cmp.mk (fun h => ?_) (fun h => ?_))
              | (refine Rem.any (by omega) (fun r hr he => ?_))
              | (refine Br.mk (fun h => ?_) (fun h => ?_))
              | (refine Ret.mk rfl)
              | (exfalso; omega))
        · rw [numB_dig (w := 4) hlt (by unfold dg; omega)]
          repeat' ((conv => whnf); first
          | refine Br.tt ?_
          | refine Br.ff ?_
          | refine Need.w ?_
          | refine Wr.w ?_
          | refine Cmp.t ?_
          | refine Cmp.f ?_
          | refine Rem.w ?_
          | refine Quo.w ?_
          | refine PickV.now rfl ?_
          | refine Pick.now rfl ?_
          | refine Chk.mk rfl ?_
          | refine PickW.w rfl ?_
            | (refine NextW.high hlt (by omega) (fun c w hc hw => ?_))
            | (refine Cmp.mk (fun h => ?_) (fun h => ?_))
            | (refine Rem.any (by omega) (fun r hr he => ?_))
            | (refine Br.mk (fun h => ?_) (fun h => ?_))
            | (refine Ret.mk rfl)
            | (exfalso; omega))
      · have hk' : k = t.length := by omega
        subst hk'
        rw [numB_yes hwl hp]
        repeat' ((conv => whnf); first
        | refine Br.tt ?_
        | refine Br.ff ?_
        | refine Need.w ?_
        | refine Wr.w ?_
        | refine Cmp.t ?_
        | refine Cmp.f ?_
        | refine Rem.w ?_
        | refine Quo.w ?_
        | refine PickV.now rfl ?_
        | refine Pick.now rfl ?_
        | refine Chk.mk rfl ?_
        | refine PickW.w rfl ?_
          | (refine NextW.end' (Nat.le_refl _) ?_)
          | (refine Ret.mk rfl))
  · rw [decide_eq_false h0, Bool.false_and]
    by_cases hl : s.length = 5
    · have hb := toNat_u8 (s.getD 0 0)
      have hc : (s.getD 0 0).toNat ≠ 83 ∧ (s.getD 0 0).toNat ≠ 87 := by omega
      clear h0
      repeat' ((conv => whnf); first
      | refine Br.tt ?_
      | refine Br.ff ?_
      | refine Need.w ?_
      | refine Wr.w ?_
      | refine Cmp.t ?_
      | refine Cmp.f ?_
      | refine Rem.w ?_
      | refine Quo.w ?_
      | refine PickV.now rfl ?_
      | refine Pick.now rfl ?_
      | refine Chk.mk rfl ?_
      | refine PickW.w rfl ?_
        | (refine PickB.at 0 (by decide) (by omega) ?_)
        | (refine Ret.mk rfl))
    · clear h0
      repeat' ((conv => whnf); first
      | refine Br.tt ?_
      | refine Br.ff ?_
      | refine Need.w ?_
      | refine Wr.w ?_
      | refine Cmp.t ?_
      | refine Cmp.f ?_
      | refine Rem.w ?_
      | refine Quo.w ?_
      | refine PickV.now rfl ?_
      | refine Pick.now rfl ?_
      | refine Chk.mk rfl ?_
      | refine PickW.w rfl ?_
        | (refine Ret.mk rfl))
theorem r_IsSeason (s : List UInt8) : Fc E n_ref02_IsSeason [S s] (B (seasB s)) := by
  refine g.fn code_ref02_IsSeason rfl ?_
  unfold seasB
  by_cases h0 : s.length = 5 ∧ ((s.getD 0 0).toNat = 83 ∨ (s.getD 0 0).toNat = 87)
  · rw [decide_eq_true h0, Bool.true_and]
    obtain ⟨hl, hc⟩ := h0
    have hb := toNat_u8 (s.getD 0 0)
    have hd := r_digits g (win s 1 (s.length - 1)) 4 (by omega)
    by_cases hn : numB (win s 1 (s.length - 1)) 4 = true
    · have hv := numB_val hn
      rw [if_pos hn] at hd
      rw [hn]
      repeat' ((conv => whnf); first
      | refine Br.tt ?_
      | refine Br.ff ?_
      | refine Need.w ?_
      | refine Wr.w ?_
      | refine Cmp.t ?_
      | refine Cmp.f ?_
      | refine Rem.w ?_
      | refine Quo.w ?_
      | refine PickV.now rfl ?_
      | refine Pick.now rfl ?_
      | refine Chk.mk rfl ?_
      | refine PickW.w rfl ?_
        | (refine CallI.of hd ?_)
        | (refine PickB.at 0 (by decide) (by omega) ?_)
        | (refine Bounds.mk (by omega) ?_)
        | (refine Cmp.mk (fun h => ?_) (fun h => ?_))
        | (refine Rem.any (by omega) (fun r hr he => ?_))
        | (refine Br.mk (fun h => ?_) (fun h => ?_))
        | (refine Ret.mk rfl)
        | (exfalso; omega))
    · rw [if_neg hn] at hd
      rw [Bool.not_eq_true] at hn
      rw [hn]
      repeat' ((conv => whnf); first
      | refine Br.tt ?_
      | refine Br.ff ?_
      | refine Need.w ?_
      | refine Wr.w ?_
      | refine Cmp.t ?_
      | refine Cmp.f ?_
      | refine Rem.w ?_
      | refine Quo.w ?_
      | refine PickV.now rfl ?_
      | refine Pick.now rfl ?_
      | refine Chk.mk rfl ?_
      | refine PickW.w rfl ?_
        | (refine CallI.of hd ?_)
        | (refine PickB.at 0 (by decide) (by omega) ?_)
        | (refine Bounds.mk (by omega) ?_)
        | (refine Cmp.mk (fun h => ?_) (fun h => ?_))
        | (refine Rem.any (by omega) (fun r hr he => ?_))
        | (refine Br.mk (fun h => ?_) (fun h => ?_))
        | (refine Ret.mk rfl)
        | (exfalso; omega))
  · rw [decide_eq_false h0, Bool.false_and]
    by_cases hl : s.length = 5
    · have hb := toNat_u8 (s.getD 0 0)
      have hc : (s.getD 0 0).toNat ≠ 83 ∧ (s.getD 0 0).toNat ≠ 87 := by omega
      clear h0
      repeat' ((conv => whnf); first
      | refine Br.tt ?_
      | refine Br.ff ?_
      | refine Need.w ?_
      | refine Wr.w ?_
      | refine Cmp.t ?_
      | refine Cmp.f ?_
      | refine Rem.w ?_
      | refine Quo.w ?_
      | refine PickV.now rfl ?_
      | refine Pick.now rfl ?_
      | refine Chk.mk rfl ?_
      | refine PickW.w rfl ?_
        | (refine PickB.at 0 (by decide) (by omega) ?_)
        | (refine Ret.mk rfl))
    · clear h0
      repeat' ((conv => whnf); first
      | refine Br.tt ?_
      | refine Br.ff ?_
      | refine Need.w ?_
      | refine Wr.w ?_
      | refine Cmp.t ?_
      | refine Cmp.f ?_
      | refine Rem.w ?_
      | refine Quo.w ?_
      | refine PickV.now rfl ?_
      | refine Pick.now rfl ?_
      | refine Chk.mk rfl ?_
      | refine PickW.w rfl ?_
        | (refine Ret.mk rfl))
theorem s_checkHead (ai se : List UInt8) (da : Int) : Fc E n_message_checkHead [S ai, S se, I da] (I (headE ai se da)) := by
  refine g.fn code_message_checkHead rfl ?_
  have h1 := s_named g ai
  have h2 := s_isSeason g se
  have h3 := s_mwithin g da 0 99999
  repeat' ((conv => whnf); first
  | refine Br.tt ?_
  | refine Br.ff ?_
  | refine Need.w ?_
  | refine Wr.w ?_
  | refine Cmp.t ?_
  | refine Cmp.f ?_
  | refine Rem.w ?_
  | refine Quo.w ?_
  | refine PickV.now rfl ?_
  | refine Pick.now rfl ?_
  | refine Chk.mk rfl ?_
  | refine PickW.w rfl ?_
    | (apply CallI.of; assumption)
    | (refine CallI.of (s_mwhen g _ _) ?_)
    | (refine CallI.of (s_mfirst3 g _ _ _) ?_)
    | (refine Ret.mk rfl))
theorem r_CheckHead (ai se : List UInt8) (da : Int) : Fc E n_ref02_CheckHead [S ai, S se, I da] (I (headE ai se da)) := by
  refine g.fn code_ref02_CheckHead rfl ?_
  have h1 := r_IsName g ai
  have h2 := r_IsSeason g se
  have h3 := r_CheckDay g da
  unfold headE nmE
  generalize isNameB ai = b at *
  generalize seasB se = c at *
  generalize rng da 0 99999 = e at *
  cases b <;> cases c <;> repeat' ((conv => whnf); first
  | refine Br.tt ?_
  | refine Br.ff ?_
  | refine Need.w ?_
  | refine Wr.w ?_
  | refine Cmp.t ?_
  | refine Cmp.f ?_
  | refine Rem.w ?_
  | refine Quo.w ?_
  | refine PickV.now rfl ?_
  | refine Pick.now rfl ?_
  | refine Chk.mk rfl ?_
  | refine PickW.w rfl ?_
    | (apply CallI.of; assumption)
    | (refine Ret.mk ?_))
  all_goals simp [firstI]
theorem s_isMessage (s : List UInt8) : Fc E n_message_isMessage [S s] (B (msgB s)) := by
  refine g.fn code_message_isMessage rfl ?_
  unfold msgB
  by_cases he : s = REQ
  · subst he
    repeat' ((conv => whnf); first
    | refine Br.tt ?_
    | refine Br.ff ?_
    | refine Need.w ?_
    | refine Wr.w ?_
    | refine Cmp.t ?_
    | refine Cmp.f ?_
    | refine Rem.w ?_
    | refine Quo.w ?_
    | refine PickV.now rfl ?_
    | refine Pick.now rfl ?_
    | refine Chk.mk rfl ?_
    | refine PickW.w rfl ?_
      | (refine Ret.mk rfl))
  · rw [decide_eq_false he]
    by_cases hd : s = ANS
    · subst hd
      repeat' ((conv => whnf); first
      | refine Br.tt ?_
      | refine Br.ff ?_
      | refine Need.w ?_
      | refine Wr.w ?_
      | refine Cmp.t ?_
      | refine Cmp.f ?_
      | refine Rem.w ?_
      | refine Quo.w ?_
      | refine PickV.now rfl ?_
      | refine Pick.now rfl ?_
      | refine Chk.mk rfl ?_
      | refine PickW.w rfl ?_
        | (refine Ret.mk rfl))
    · rw [decide_eq_false hd]
      repeat' ((conv => whnf); first
      | refine Br.tt ?_
      | refine Br.ff ?_
      | refine Need.w ?_
      | refine Wr.w ?_
      | refine Cmp.t ?_
      | refine Cmp.f ?_
      | refine Rem.w ?_
      | refine Quo.w ?_
      | refine PickV.now rfl ?_
      | refine Pick.now rfl ?_
      | refine Chk.mk rfl ?_
      | refine PickW.w rfl ?_
        | (refine Cmp.ff he ?_)
        | (refine Cmp.ff hd ?_)
        | (refine Ret.mk rfl))
end
end Go.Proofs.YtmjifdpcoaeehaaGreatDoor.Co
