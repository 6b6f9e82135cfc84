
/-
  Messages: the lines of a message, checked by the program and by the reference.
-/
import Derived.Test.YtmjifdpcoaeehaaGreatDoorPlMsm
namespace Go.Proofs.YtmjifdpcoaeehaaGreatDoor.Co
open Go Go.Evl
def prevO (ls : List Lnt) (k : Nat) : Option Lnt := if k = 0 then none else ls[k - 1]?
theorem prevO_succ {ls : List Lnt} {k : Nat} (h : k < ls.length) : prevO ls (k + 1) = some ls[k] := by simp [prevO, h]
theorem act_find (s : List UInt8) : ∃ r, findE (.str s) actM = some r ∧ outV (.str []) false r = S (actK s) := by
  rcases act_cases s with h | ⟨h, h1, h2⟩
  · simp only [askL, repL, List.cons_append, List.nil_append, List.mem_cons, List.not_mem_nil, or_false] at h
    rcases h with rfl | rfl | rfl | rfl | rfl | rfl | rfl | rfl | rfl
    all_goals exact ⟨_, rfl, rfl⟩
  · exact ⟨_, h, by unfold actK; rw [h1, h2]; rfl⟩
theorem PickW.part {α : Type} {cell : α → List D} {w : Nat} (hw : ∀ a, (cell a).length = w) {l : List α} {i : Int} {j n : Nat} {ds : List D} {K : List D → Prop} (k : Nat) (hi : i = k) (h : k < l.length) (hj : j + n ≤ w) (hd : win (cell l[k]) j n = ds) (hk : K ds) : PickW (l.flatMap cell) (i.toNat * w + j) n K := by
  subst hi
  rw [Int.toNat_natCast]
  have h1 := flatR_length cell w hw l
  have h2 : (k + 1) * w ≤ l.length * w := Nat.mul_le_mul_right _ h
  rw [Nat.succ_mul] at h2
  refine ⟨by omega, ?_⟩
  have e : win (l.flatMap cell) (k * w + j) n = ds := by
    rw [← hd]
    unfold win
    rw [← List.drop_drop, flatR_drop cell w hw, List.drop_eq_getElem_cons h, List.flatMap_cons, List.drop_append_of_le_length (by rw [hw]; omega), List.take_append_of_le_length (by rw [List.length_drop, hw]; omega)]
  rw [e]; exact hk
section
variable {E : Oracle} (g : Good E)
include g
set_option maxRecDepth 100000
theorem s_twins (a b : Rqt) : Fc E n_message_twins [Rqv a, Rqv b] (B (twinB a b)) := by
  refine g.fn code_message_twins rfl ?_
  unfold twinB
  by_cases h1 : a.ca = b.ca
  · rw [decide_eq_true h1]
    by_cases h2 : a.nm = b.nm
    · rw [decide_eq_true h2]
      repeat' ((conv => whnf); first
      | refine Br.tt ?_
      | refine Br.ff ?_
      | refine Need.w ?_
      | refine Wr.w ?_
      | refine Cmp.t ?_
      | refine Cmp.f ?_
      | refine Rem.w ?_
      | refine Quo.w ?_
      | refine PickV.now rfl ?_
      | refine Pick.now rfl ?_
      | refine Chk.mk rfl ?_
      | refine PickW.w rfl ?_
        | (refine Cmp.tt h1 ?_)
        | (refine Cmp.tt h2 ?_)
        | (refine Ret.mk rfl))
    · rw [decide_eq_false h2]
      repeat' ((conv => whnf); first
      | refine Br.tt ?_
      | refine Br.ff ?_
      | refine Need.w ?_
      | refine Wr.w ?_
      | refine Cmp.t ?_
      | refine Cmp.f ?_
      | refine Rem.w ?_
      | refine Quo.w ?_
      | refine PickV.now rfl ?_
      | refine Pick.now rfl ?_
      | refine Chk.mk rfl ?_
      | refine PickW.w rfl ?_
        | (refine Cmp.tt h1 ?_)
        | (refine Cmp.ff h2 ?_)
        | (refine Ret.mk rfl))
  · rw [decide_eq_false h1]
    repeat' ((conv => whnf); first
    | refine Br.tt ?_
    | refine Br.ff ?_
    | refine Need.w ?_
    | refine Wr.w ?_
    | refine Cmp.t ?_
    | refine Cmp.f ?_
    | refine Rem.w ?_
    | refine Quo.w ?_
    | refine PickV.now rfl ?_
    | refine Pick.now rfl ?_
    | refine Chk.mk rfl ?_
    | refine PickW.w rfl ?_
      | (refine Cmp.ff h1 ?_)
      | (refine Ret.mk rfl))
set_option maxHeartbeats 16000000 in
theorem rnd_checkLines (kind : List UInt8) (ls : List Lnt) (k : Nat) (hlt : k < ls.length) {K : Ex → Env → Mem → Prop} {R : V} (hl : ls.length ≤ 1000000) (hK : ∀ e m, K .ret e m = resultsW m e [.tmp 4, .tmp 5] fun v => thawW m v fun d => Ret d R)
    (hF : lnE kind (prevO ls k) ls[k] ≠ 0 → .tup [I k, I (lnE kind (prevO ls k) ls[k])] = R)
    (ih : lnE kind (prevO ls k) ls[k] = 0 → LoopW E ⟨0, 1⟩ [0, 1, 12, 13, 14] [] b_message_checkLines_1 [(0, S kind), (1, LL ls), (12, LL ls), (13, I ls.length), (14, I (k + 1 : Nat))] [] K) :
    wpC E ⟨0, 1⟩ b_message_checkLines_1 [(0, S kind), (1, LL ls), (12, LL ls), (13, I ls.length), (14, I k)] [] (againK E ⟨0, 1⟩ [0, 1, 12, 13, 14] [] b_message_checkLines_1 K) := by
  have hcl := s_CheckLine g ls[k]
  obtain ⟨r, hf, hr⟩ := act_find ls[k].ac
  have fin : ∀ a b c, lnE kind (prevO ls k) ls[k] = firstI [a, b, c] → (firstI [a, b, c] = 0 → lnE kind (prevO ls k) ls[k] = 0) ∧ (firstI [a, b, c] ≠ 0 → .tup [I k, I (firstI [a, b, c])] = R) := by
    intro a b c h
    rw [← h]
    exact ⟨id, hF⟩
  by_cases hk : actK ls[k].ac = kind
  · by_cases h0 : k = 0
    · have hp : prevO ls k = none := if_pos h0
      by_cases hR : ls[k].ac = [82]
      · have he : lnE kind (prevO ls k) ls[k] = firstI [chkLn ls[k], 0, 11] := by
          unfold lnE
          rw [hp, if_pos hk]
          simp [hR, openO, twinO]
        by_cases hz : lnE kind (prevO ls k) ls[k] = 0
        all_goals repeat' ((conv => whnf); first
        | refine Br.tt ?_
        | refine Br.ff ?_
        | refine Need.w ?_
        | refine Wr.w ?_
        | refine Cmp.t ?_
        | refine Cmp.f ?_
        | refine Rem.w ?_
        | refine Quo.w ?_
        | refine PickV.now rfl ?_
        | refine Pick.now rfl ?_
        | refine Chk.mk rfl ?_
        | refine PickW.w rfl ?_
          | (refine PickW.rec Lnt.cells_length k rfl hlt ?_)
          | (refine CallI.of hcl ?_)
          | (refine CallS.actions g rfl ?_)
          | (refine Find.mk ⟨_, hf, ?_⟩ <;> (dsimp only; rw [hr]))
          | (refine Cmp.tt (by assumption) ?_)
          | (refine Cmp.ff (by assumption) ?_)
          | (refine CallI.of (s_mwhen g _ _) ?_)
          | (refine CallI.of (s_mfirst3 g _ _ _) ?_)
          | (refine Cmp.tt (he.symm.trans hz) ?_)
          | (refine Cmp.ff (fun h => hz (he.trans h)) ?_)
          | (refine LoopW.to (ih hz) rfl rfl)
          | (refine (hK _ _).mpr ?_)
          | (refine Ret.mk ((fin _ _ _ he).2 (fun h => hz (he.trans h)))))
      · have he : lnE kind (prevO ls k) ls[k] = firstI [chkLn ls[k], 0, 0] := by
          unfold lnE
          rw [hp, if_pos hk]
          simp [hR, openO, twinO]
        by_cases hz : lnE kind (prevO ls k) ls[k] = 0
        all_goals repeat' ((conv => whnf); first
        | refine Br.tt ?_
        | refine Br.ff ?_
        | refine Need.w ?_
        | refine Wr.w ?_
        | refine Cmp.t ?_
        | refine Cmp.f ?_
        | refine Rem.w ?_
        | refine Quo.w ?_
        | refine PickV.now rfl ?_
        | refine Pick.now rfl ?_
        | refine Chk.mk rfl ?_
        | refine PickW.w rfl ?_
          | (refine PickW.rec Lnt.cells_length k rfl hlt ?_)
          | (refine CallI.of hcl ?_)
          | (refine CallS.actions g rfl ?_)
          | (refine Find.mk ⟨_, hf, ?_⟩ <;> (dsimp only; rw [hr]))
          | (refine Cmp.tt (by assumption) ?_)
          | (refine Cmp.ff (by assumption) ?_)
          | (refine CallI.of (s_mwhen g _ _) ?_)
          | (refine CallI.of (s_mfirst3 g _ _ _) ?_)
          | (refine Cmp.tt (he.symm.trans hz) ?_)
          | (refine Cmp.ff (fun h => hz (he.trans h)) ?_)
          | (refine LoopW.to (ih hz) rfl rfl)
          | (refine (hK _ _).mpr ?_)
          | (refine Ret.mk ((fin _ _ _ he).2 (fun h => hz (he.trans h)))))
    · have hlp : k - 1 < ls.length := by omega
      have hp : prevO ls k = some ls[k - 1] := by simp [prevO, h0, hlp]
      have ht := s_twins g ls[k - 1].rq ls[k].rq
      by_cases hC : ls[k - 1].ac = [67]
      · by_cases hR : ls[k].ac = [82]
        · cases htw : twinB ls[k - 1].rq ls[k].rq
          all_goals rw [htw] at ht
          · have he : lnE kind (prevO ls k) ls[k] = firstI [chkLn ls[k], 0, 11] := by
              unfold lnE
              rw [hp, if_pos hk]
              simp [hR, hC, htw, openO, twinO]
            by_cases hz : lnE kind (prevO ls k) ls[k] = 0
            all_goals repeat' ((conv => whnf); first
            | refine Br.tt ?_
            | refine Br.ff ?_
            | refine Need.w ?_
            | refine Wr.w ?_
            | refine Cmp.t ?_
            | refine Cmp.f ?_
            | refine Rem.w ?_
            | refine Quo.w ?_
            | refine PickV.now rfl ?_
            | refine Pick.now rfl ?_
            | refine Chk.mk rfl ?_
            | refine PickW.w rfl ?_
              | (refine PickW.rec Lnt.cells_length k rfl hlt ?_)
              | (refine CallI.of hcl ?_)
              | (refine CallS.actions g rfl ?_)
              | (refine Find.mk ⟨_, hf, ?_⟩ <;> (dsimp only; rw [hr]))
              | (refine Pick.rec Lnt.cells_length (k - 1) (by omega) hlp rfl ?_)
              | (refine PickW.part Lnt.cells_length (k - 1) (by omega) hlp (by decide) rfl ?_)
              | (refine CallI.of ht ?_)
              | (refine Cmp.tt (by assumption) ?_)
              | (refine Cmp.ff (by assumption) ?_)
              | (refine CallI.of (s_mwhen g _ _) ?_)
              | (refine CallI.of (s_mfirst3 g _ _ _) ?_)
              | (refine Cmp.tt (he.symm.trans hz) ?_)
              | (refine Cmp.ff (fun h => hz (he.trans h)) ?_)
              | (refine LoopW.to (ih hz) rfl rfl)
              | (refine (hK _ _).mpr ?_)
              | (refine Ret.mk ((fin _ _ _ he).2 (fun h => hz (he.trans h)))))
          · have he : lnE kind (prevO ls k) ls[k] = firstI [chkLn ls[k], 0, 0] := by
              unfold lnE
              rw [hp, if_pos hk]
              simp [hR, hC, htw, openO, twinO]
            by_cases hz : lnE kind (prevO ls k) ls[k] = 0
            all_goals repeat' ((conv => whnf); first
            | refine Br.tt ?_
            | refine Br.ff ?_
            | refine Need.w ?_
            | refine Wr.w ?_
            | refine Cmp.t ?_
            | refine Cmp.f ?_
            | refine Rem.w ?_
            | refine Quo.w ?_
            | refine PickV.now rfl ?_
            | refine Pick.now rfl ?_
            | refine Chk.mk rfl ?_
            | refine PickW.w rfl ?_
              | (refine PickW.rec Lnt.cells_length k rfl hlt ?_)
              | (refine CallI.of hcl ?_)
              | (refine CallS.actions g rfl ?_)
              | (refine Find.mk ⟨_, hf, ?_⟩ <;> (dsimp only; rw [hr]))
              | (refine Pick.rec Lnt.cells_length (k - 1) (by omega) hlp rfl ?_)
              | (refine PickW.part Lnt.cells_length (k - 1) (by omega) hlp (by decide) rfl ?_)
              | (refine CallI.of ht ?_)
              | (refine Cmp.tt (by assumption) ?_)
              | (refine Cmp.ff (by assumption) ?_)
              | (refine CallI.of (s_mwhen g _ _) ?_)
              | (refine CallI.of (s_mfirst3 g _ _ _) ?_)
              | (refine Cmp.tt (he.symm.trans hz) ?_)
              | (refine Cmp.ff (fun h => hz (he.trans h)) ?_)
              | (refine LoopW.to (ih hz) rfl rfl)
              | (refine (hK _ _).mpr ?_)
              | (refine Ret.mk ((fin _ _ _ he).2 (fun h => hz (he.trans h)))))
        · have he : lnE kind (prevO ls k) ls[k] = firstI [chkLn ls[k], 0, 11] := by
            unfold lnE
            rw [hp, if_pos hk]
            simp [hR, hC, openO, twinO]
          by_cases hz : lnE kind (prevO ls k) ls[k] = 0
          all_goals repeat' ((conv => whnf); first
          | refine Br.tt ?_
          | refine Br.ff ?_
          | refine Need.w ?_
          | refine Wr.w ?_
          | refine Cmp.t ?_
          | refine Cmp.f ?_
          | refine Rem.w ?_
          | refine Quo.w ?_
          | refine PickV.now rfl ?_
          | refine Pick.now rfl ?_
          | refine Chk.mk rfl ?_
          | refine PickW.w rfl ?_
            | (refine PickW.rec Lnt.cells_length k rfl hlt ?_)
            | (refine CallI.of hcl ?_)
            | (refine CallS.actions g rfl ?_)
            | (refine Find.mk ⟨_, hf, ?_⟩ <;> (dsimp only; rw [hr]))
            | (refine Pick.rec Lnt.cells_length (k - 1) (by omega) hlp rfl ?_)
            | (refine PickW.part Lnt.cells_length (k - 1) (by omega) hlp (by decide) rfl ?_)
            | (refine CallI.of ht ?_)
            | (refine Cmp.tt (by assumption) ?_)
            | (refine Cmp.ff (by assumption) ?_)
            | (refine CallI.of (s_mwhen g _ _) ?_)
            | (refine CallI.of (s_mfirst3 g _ _ _) ?_)
            | (refine Cmp.tt (he.symm.trans hz) ?_)
            | (refine Cmp.ff (fun h => hz (he.trans h)) ?_)
            | (refine LoopW.to (ih hz) rfl rfl)
            | (refine (hK _ _).mpr ?_)
            | (refine Ret.mk ((fin _ _ _ he).2 (fun h => hz (he.trans h)))))
      · by_cases hR : ls[k].ac = [82]
        · have he : lnE kind (prevO ls k) ls[k] = firstI [chkLn ls[k], 0, 11] := by
            unfold lnE
            rw [hp, if_pos hk]
            simp [hR, hC, openO, twinO]
          by_cases hz : lnE kind (prevO ls k) ls[k] = 0
          all_goals repeat' ((conv => whnf); first
          | refine Br.tt ?_
          | refine Br.ff ?_
          | refine Need.w ?_
          | refine Wr.w ?_
          | refine Cmp.t ?_
          | refine Cmp.f ?_
          | refine Rem.w ?_
          | refine Quo.w ?_
          | refine PickV.now rfl ?_
          | refine Pick.now rfl ?_
          | refine Chk.mk rfl ?_
          | refine PickW.w rfl ?_
            | (refine PickW.rec Lnt.cells_length k rfl hlt ?_)
            | (refine CallI.of hcl ?_)
            | (refine CallS.actions g rfl ?_)
            | (refine Find.mk ⟨_, hf, ?_⟩ <;> (dsimp only; rw [hr]))
            | (refine Pick.rec Lnt.cells_length (k - 1) (by omega) hlp rfl ?_)
            | (refine PickW.part Lnt.cells_length (k - 1) (by omega) hlp (by decide) rfl ?_)
            | (refine CallI.of ht ?_)
            | (refine Cmp.tt (by assumption) ?_)
            | (refine Cmp.ff (by assumption) ?_)
            | (refine CallI.of (s_mwhen g _ _) ?_)
            | (refine CallI.of (s_mfirst3 g _ _ _) ?_)
            | (refine Cmp.tt (he.symm.trans hz) ?_)
            | (refine Cmp.ff (fun h => hz (he.trans h)) ?_)
            | (refine LoopW.to (ih hz) rfl rfl)
            | (refine (hK _ _).mpr ?_)
            | (refine Ret.mk ((fin _ _ _ he).2 (fun h => hz (he.trans h)))))
        · have he : lnE kind (prevO ls k) ls[k] = firstI [chkLn ls[k], 0, 0] := by
            unfold lnE
            rw [hp, if_pos hk]
            simp [hR, hC, openO, twinO]
          by_cases hz : lnE kind (prevO ls k) ls[k] = 0
          all_goals repeat' ((conv => whnf); first
          | refine Br.tt ?_
          | refine Br.ff ?_
          | refine Need.w ?_
          | refine Wr.w ?_
          | refine Cmp.t ?_
          | refine Cmp.f ?_
          | refine Rem.w ?_
          | refine Quo.w ?_
          | refine PickV.now rfl ?_
          | refine Pick.now rfl ?_
          | refine Chk.mk rfl ?_
          | refine PickW.w rfl ?_
            | (refine PickW.rec Lnt.cells_length k rfl hlt ?_)
            | (refine CallI.of hcl ?_)
            | (refine CallS.actions g rfl ?_)
            | (refine Find.mk ⟨_, hf, ?_⟩ <;> (dsimp only; rw [hr]))
            | (refine Pick.rec Lnt.cells_length (k - 1) (by omega) hlp rfl ?_)
            | (refine PickW.part Lnt.cells_length (k - 1) (by omega) hlp (by decide) rfl ?_)
            | (refine CallI.of ht ?_)
            | (refine Cmp.tt (by assumption) ?_)
            | (refine Cmp.ff (by assumption) ?_)
            | (refine CallI.of (s_mwhen g _ _) ?_)
            | (refine CallI.of (s_mfirst3 g _ _ _) ?_)
            | (refine Cmp.tt (he.symm.trans hz) ?_)
            | (refine Cmp.ff (fun h => hz (he.trans h)) ?_)
            | (refine LoopW.to (ih hz) rfl rfl)
            | (refine (hK _ _).mpr ?_)
            | (refine Ret.mk ((fin _ _ _ he).2 (fun h => hz (he.trans h)))))
  · by_cases h0 : k = 0
    · have hp : prevO ls k = none := if_pos h0
      by_cases hR : ls[k].ac = [82]
      · have he : lnE kind (prevO ls k) ls[k] = firstI [chkLn ls[k], 18, 11] := by
          unfold lnE
          rw [hp, if_neg hk]
          simp [hR, openO, twinO]
        by_cases hz : lnE kind (prevO ls k) ls[k] = 0
        all_goals repeat' ((conv => whnf); first
        | refine Br.tt ?_
        | refine Br.ff ?_
        | refine Need.w ?_
        | refine Wr.w ?_
        | refine Cmp.t ?_
        | refine Cmp.f ?_
        | refine Rem.w ?_
        | refine Quo.w ?_
        | refine PickV.now rfl ?_
        | refine Pick.now rfl ?_
        | refine Chk.mk rfl ?_
        | refine PickW.w rfl ?_
          | (refine PickW.rec Lnt.cells_length k rfl hlt ?_)
          | (refine CallI.of hcl ?_)
          | (refine CallS.actions g rfl ?_)
          | (refine Find.mk ⟨_, hf, ?_⟩ <;> (dsimp only; rw [hr]))
          | (refine Cmp.tt (by assumption) ?_)
          | (refine Cmp.ff (by assumption) ?_)
          | (refine CallI.of (s_mwhen g _ _) ?_)
          | (refine CallI.of (s_mfirst3 g _ _ _) ?_)
          | (refine Cmp.tt (he.symm.trans hz) ?_)
          | (refine Cmp.ff (fun h => hz (he.trans h)) ?_)
          | (refine LoopW.to (ih hz) rfl rfl)
          | (refine (hK _ _).mpr ?_)
          | (refine Ret.mk ((fin _ _ _ he).2 (fun h => hz (he.trans h)))))
      · have he : lnE kind (prevO ls k) ls[k] = firstI [chkLn ls[k], 18, 0] := by
          unfold lnE
          rw [hp, if_neg hk]
          simp [hR, openO, twinO]
        by_cases hz : lnE kind (prevO ls k) ls[k] = 0
        all_goals repeat' ((conv => whnf); first
        | refine Br.tt ?_
        | refine Br.ff ?_
        | refine Need.w ?_
        | refine Wr.w ?_
        | refine Cmp.t ?_
        | refine Cmp.f ?_
        | refine Rem.w ?_
        | refine Quo.w ?_
        | refine PickV.now rfl ?_
        | refine Pick.now rfl ?_
        | refine Chk.mk rfl ?_
        | refine PickW.w rfl ?_
          | (refine PickW.rec Lnt.cells_length k rfl hlt ?_)
          | (refine CallI.of hcl ?_)
          | (refine CallS.actions g rfl ?_)
          | (refine Find.mk ⟨_, hf, ?_⟩ <;> (dsimp only; rw [hr]))
          | (refine Cmp.tt (by assumption) ?_)
          | (refine Cmp.ff (by assumption) ?_)
          | (refine CallI.of (s_mwhen g _ _) ?_)
          | (refine CallI.of (s_mfirst3 g _ _ _) ?_)
          | (refine Cmp.tt (he.symm.trans hz) ?_)
          | (refine Cmp.ff (fun h => hz (he.trans h)) ?_)
          | (refine LoopW.to (ih hz) rfl rfl)
          | (refine (hK _ _).mpr ?_)
          | (refine Ret.mk ((fin _ _ _ he).2 (fun h => hz (he.trans h)))))
    · have hlp : k - 1 < ls.length := by omega
      have hp : prevO ls k = some ls[k - 1] := by simp [prevO, h0, hlp]
      have ht := s_twins g ls[k - 1].rq ls[k].rq
      by_cases hC : ls[k - 1].ac = [67]
      · by_cases hR : ls[k].ac = [82]
        · cases htw : twinB ls[k - 1].rq ls[k].rq
          all_goals rw [htw] at ht
          · have he : lnE kind (prevO ls k) ls[k] = firstI [chkLn ls[k], 18, 11] := by
              unfold lnE
              rw [hp, if_neg hk]
              simp [hR, hC, htw, openO, twinO]
            by_cases hz : lnE kind (prevO ls k) ls[k] = 0
            all_goals repeat' ((conv => whnf); first
            | refine Br.tt ?_
            | refine Br.ff ?_
            | refine Need.w ?_
            | refine Wr.w ?_
            | refine Cmp.t ?_
            | refine Cmp.f ?_
            | refine Rem.w ?_
            | refine Quo.w ?_
            | refine PickV.now rfl ?_
            | refine Pick.now rfl ?_
            | refine Chk.mk rfl ?_
            | refine PickW.w rfl ?_
              | (refine PickW.rec Lnt.cells_length k rfl hlt ?_)
              | (refine CallI.of hcl ?_)
              | (refine CallS.actions g rfl ?_)
              | (refine Find.mk ⟨_, hf, ?_⟩ <;> (dsimp only; rw [hr]))
              | (refine Pick.rec Lnt.cells_length (k - 1) (by omega) hlp rfl ?_)
              | (refine PickW.part Lnt.cells_length (k - 1) (by omega) hlp (by decide) rfl ?_)
              | (refine CallI.of ht ?_)
              | (refine Cmp.tt (by assumption) ?_)
              | (refine Cmp.ff (by assumption) ?_)
              | (refine CallI.of (s_mwhen g _ _) ?_)
              | (refine CallI.of (s_mfirst3 g _ _ _) ?_)
              | (refine Cmp.tt (he.symm.trans hz) ?_)
              | (refine Cmp.ff (fun h => hz (he.trans h)) ?_)
              | (refine LoopW.to (ih hz) rfl rfl)
              | (refine (hK _ _).mpr ?_)
              | (refine Ret.mk ((fin _ _ _ he).2 (fun h => hz (he.trans h)))))
          · have he : lnE kind (prevO ls k) ls[k] = firstI [chkLn ls[k], 18, 0] := by
              unfold lnE
              rw [hp, if_neg hk]
              simp [hR, hC, htw, openO, twinO]
            by_cases hz : lnE kind (prevO ls k) ls[k] = 0
            all_goals repeat' ((conv => whnf); first
            | refine Br.tt ?_
            | refine Br.ff ?_
            | refine Need.w ?_
            | refine Wr.w ?_
            | refine Cmp.t ?_
            | refine Cmp.f ?_
            | refine Rem.w ?_
            | refine Quo.w ?_
            | refine PickV.now rfl ?_
            | refine Pick.now rfl ?_
            | refine Chk.mk rfl ?_
            | refine PickW.w rfl ?_
              | (refine PickW.rec Lnt.cells_length k rfl hlt ?_)
              | (refine CallI.of hcl ?_)
              | (refine CallS.actions g rfl ?_)
              | (refine Find.mk ⟨_, hf, ?_⟩ <;> (dsimp only; rw [hr]))
              | (refine Pick.rec Lnt.cells_length (k - 1) (by omega) hlp rfl ?_)
              | (refine PickW.part Lnt.cells_length (k - 1) (by omega) hlp (by decide) rfl ?_)
              | (refine CallI.of ht ?_)
              | (refine Cmp.tt (by assumption) ?_)
              | (refine Cmp.ff (by assumption) ?_)
              | (refine CallI.of (s_mwhen g _ _) ?_)
              | (refine CallI.of (s_mfirst3 g _ _ _) ?_)
              | (refine Cmp.tt (he.symm.trans hz) ?_)
              | (refine Cmp.ff (fun h => hz (he.trans h)) ?_)
              | (refine LoopW.to (ih hz) rfl rfl)
              | (refine (hK _ _).mpr ?_)
              | (refine Ret.mk ((fin _ _ _ he).2 (fun h => hz (he.trans h)))))
        · have he : lnE kind (prevO ls k) ls[k] = firstI [chkLn ls[k], 18, 11] := by
            unfold lnE
            rw [hp, if_neg hk]
            simp [hR, hC, openO, twinO]
          by_cases hz : lnE kind (prevO ls k) ls[k] = 0
          all_goals repeat' ((conv => whnf); first
          | refine Br.tt ?_
          | refine Br.ff ?_
          | refine Need.w ?_
          | refine Wr.w ?_
          | refine Cmp.t ?_
          | refine Cmp.f ?_
          | refine Rem.w ?_
          | refine Quo.w ?_
          | refine PickV.now rfl ?_
          | refine Pick.now rfl ?_
          | refine Chk.mk rfl ?_
          | refine PickW.w rfl ?_
            | (refine PickW.rec Lnt.cells_length k rfl hlt ?_)
            | (refine CallI.of hcl ?_)
            | (refine CallS.actions g rfl ?_)
            | (refine Find.mk ⟨_, hf, ?_⟩ <;> (dsimp only; rw [hr]))
            | (refine Pick.rec Lnt.cells_length (k - 1) (by omega) hlp rfl ?_)
            | (refine PickW.part Lnt.cells_length (k - 1) (by omega) hlp (by decide) rfl ?_)
            | (refine CallI.of ht ?_)
            | (refine Cmp.tt (by assumption) ?_)
            | (refine Cmp.ff (by assumption) ?_)
            | (refine CallI.of (s_mwhen g _ _) ?_)
            | (refine CallI.of (s_mfirst3 g _ _ _) ?_)
            | (refine Cmp.tt (he.symm.trans hz) ?_)
            | (refine Cmp.ff (fun h => hz (he.trans h)) ?_)
            | (refine LoopW.to (ih hz) rfl rfl)
            | (refine (hK _ _).mpr ?_)
            | (refine Ret.mk ((fin _ _ _ he).2 (fun h => hz (he.trans h)))))
      · by_cases hR : ls[k].ac = [82]
        · have he : lnE kind (prevO ls k) ls[k] = firstI [chkLn ls[k], 18, 11] := by
            unfold lnE
            rw [hp, if_neg hk]
            simp [hR, hC, openO, twinO]
          by_cases hz : lnE kind (prevO ls k) ls[k] = 0
          all_goals repeat' ((conv => whnf); first
          | refine Br.tt ?_
          | refine Br.ff ?_
          | refine Need.w ?_
          | refine Wr.w ?_
          | refine Cmp.t ?_
          | refine Cmp.f ?_
          | refine Rem.w ?_
          | refine Quo.w ?_
          | refine PickV.now rfl ?_
          | refine Pick.now rfl ?_
          | refine Chk.mk rfl ?_
          | refine PickW.w rfl ?_
            | (refine PickW.rec Lnt.cells_length k rfl hlt ?_)
            | (refine CallI.of hcl ?_)
            | (refine CallS.actions g rfl ?_)
            | (refine Find.mk ⟨_, hf, ?_⟩ <;> (dsimp only; rw [hr]))
            | (refine Pick.rec Lnt.cells_length (k - 1) (by omega) hlp rfl ?_)
            | (refine PickW.part Lnt.cells_length (k - 1) (by omega) hlp (by decide) rfl ?_)
            | (refine CallI.of ht ?_)
            | (refine Cmp.tt (by assumption) ?_)
            | (refine Cmp.ff (by assumption) ?_)
            | (refine CallI.of (s_mwhen g _ _) ?_)
            | (refine CallI.of (s_mfirst3 g _ _ _) ?_)
            | (refine Cmp.tt (he.symm.trans hz) ?_)
            | (refine Cmp.ff (fun h => hz (he.trans h)) ?_)
            | (refine LoopW.to (ih hz) rfl rfl)
            | (refine (hK _ _).mpr ?_)
            | (refine Ret.mk ((fin _ _ _ he).2 (fun h => hz (he.trans h)))))
        · have he : lnE kind (prevO ls k) ls[k] = firstI [chkLn ls[k], 18, 0] := by
            unfold lnE
            rw [hp, if_neg hk]
            simp [hR, hC, openO, twinO]
          by_cases hz : lnE kind (prevO ls k) ls[k] = 0
          all_goals repeat' ((conv => whnf); first
          | refine Br.tt ?_
          | refine Br.ff ?_
          | refine Need.w ?_
          | refine Wr.w ?_
          | refine Cmp.t ?_
          | refine Cmp.f ?_
          | refine Rem.w ?_
          | refine Quo.w ?_
          | refine PickV.now rfl ?_
          | refine Pick.now rfl ?_
          | refine Chk.mk rfl ?_
          | refine PickW.w rfl ?_
            | (refine PickW.rec Lnt.cells_length k rfl hlt ?_)
            | (refine CallI.of hcl ?_)
            | (refine CallS.actions g rfl ?_)
            | (refine Find.mk ⟨_, hf, ?_⟩ <;> (dsimp only; rw [hr]))
            | (refine Pick.rec Lnt.cells_length (k - 1) (by omega) hlp rfl ?_)
            | (refine PickW.part Lnt.cells_length (k - 1) (by omega) hlp (by decide) rfl ?_)
            | (refine CallI.of ht ?_)
            | (refine Cmp.tt (by assumption) ?_)
            | (refine Cmp.ff (by assumption) ?_)
            | (refine CallI.of (s_mwhen g _ _) ?_)
            | (refine CallI.of (s_mfirst3 g _ _ _) ?_)
            | (refine Cmp.tt (he.symm.trans hz) ?_)
            | (refine Cmp.ff (fun h => hz (he.trans h)) ?_)
            | (refine LoopW.to (ih hz) rfl rfl)
            | (refine (hK _ _).mpr ?_)
            | (refine Ret.mk ((fin _ _ _ he).2 (fun h => hz (he.trans h)))))
end
end Go.Proofs.YtmjifdpcoaeehaaGreatDoor.Co
