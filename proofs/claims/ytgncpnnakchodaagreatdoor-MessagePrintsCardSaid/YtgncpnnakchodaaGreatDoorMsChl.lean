
/-
  Messages: checkLines and CheckMessage, by the program and by the reference.
-/
import Derived.Test.YtgncpnnakchodaaGreatDoorMsChk
namespace Go.Proofs.YtgncpnnakchodaaGreatDoor.Co
open Go Go.Evl

theorem chkLs_step {kind : List UInt8} {ls : List Lnt} {k : Nat} (h : k < ls.length) : chkLs kind (prevO ls k) k (ls.drop k) = if lnE kind (prevO ls k) ls[k] = 0 then chkLs kind (prevO ls (k + 1)) (k + 1) (ls.drop (k + 1)) else (k, lnE kind (prevO ls k) ls[k]) := by
  rw [List.drop_eq_getElem_cons h, chkLs, prevO_succ h]
theorem chkLs_end {kind : List UInt8} {ls : List Lnt} : chkLs kind (prevO ls ls.length) ls.length (ls.drop ls.length) = if openO (prevO ls ls.length) then (ls.length - 1, 11) else (0, 0) := by
  rw [List.drop_length, chkLs]
theorem act_asks {s : List UInt8} (h : actB s = true) (kind : List UInt8) (hk : kind = REQ ∨ kind = ANS) : actK s = kind ↔ asksB s = decide (kind = REQ) := by
  unfold actK
  unfold actB at h
  cases ha : asksB s with
  | true =>
    rcases hk with rfl | rfl
    · simp
    · simp
  | false =>
    rw [ha, Bool.false_or] at h
    rw [h]
    rcases hk with rfl | rfl
    · simp
    · simp

/-- A cell of a part of a record. -/
theorem Pick.rec2 {α : Type} {cell : α → List D} {w : Nat} (hw : ∀ a, (cell a).length = w) {l : List α} {i : Int} {a b : Nat} {K : D → Prop} {d : D} (k : Nat) (hi : i = k) (h : k < l.length) (hj : (cell l[k])[a + b]? = some d) (hk : K d) : Pick (l.flatMap cell) (i.toNat * w + a + b) K := by
  rw [Nat.add_assoc]
  exact Pick.rec hw k hi h hj hk

section
variable {E : Oracle} (g : Good E)
include g
set_option maxRecDepth 100000

set_option maxHeartbeats 4000000 in
theorem s_checkLines (kind : List UInt8) (ls : List Lnt) (hl : ls.length ≤ 1000000) : Fc E n_message_checkLines [S kind, LL ls] (.tup [I ((chkLs kind none 0 ls).1 : Nat), I (chkLs kind none 0 ls).2]) := by
  refine g.fn code_message_checkLines rfl ?_
  repeat' ((conv => whnf); first
    | (refine Br.tt ?_)
    | (refine Br.ff ?_)
    | (refine Need.mk (by first | omega | (simp; done) | (simp; omega)) ?_)
    | (refine Wr.keep (by omega) ?_)
    | (refine Cmp.tt (by first | omega | decide) ?_)
    | (refine Cmp.ff (by first | omega | decide) ?_)
    | (refine Rem.pos (by omega) ?_)
    | (refine Quo.pos (by omega) ?_)
    | (refine PickV.now rfl ?_)
    | (refine Pick.now rfl ?_)
    | (refine Chk.mk rfl ?_)
    | (refine PickW.now (by first | omega | decide) rfl ?_))
  refine LoopW.to (LoopW.upP g (fun k => [(0, S kind), (1, LL ls), (12, LL ls), (13, I ls.length), (14, I k)]) (fun _ => []) (fun k => chkLs kind (prevO ls k) k (ls.drop k) = chkLs kind none 0 ls) ls.length (fun k hk hp ih => ?_) 0 (Nat.zero_le _) rfl) rfl rfl
  by_cases hlt : k < ls.length
  · have hs := chkLs_step (kind := kind) hlt
    refine rnd_checkLines g kind ls k hlt hl (fun _ _ => rfl) (fun hz => ?_) (fun hz => ?_)
    · rw [if_neg hz, hp] at hs
      rw [hs]
    · rw [if_pos hz, hp] at hs
      exact ih hlt hs.symm
  · obtain rfl : k = ls.length := by omega
    rw [← hp, chkLs_end]
    by_cases h0 : ls.length = 0
    · have hz : prevO ls ls.length = none := if_pos h0
      rw [hz]
      repeat' ((conv => whnf); first
        | (refine Br.tt ?_)
        | (refine Br.ff ?_)
        | (refine Need.mk (by first | omega | (simp; done) | (simp; omega)) ?_)
        | (refine Wr.keep (by omega) ?_)
        | (refine Cmp.tt (by first | omega | decide) ?_)
        | (refine Cmp.ff (by first | omega | decide) ?_)
        | (refine Rem.pos (by omega) ?_)
        | (refine Quo.pos (by omega) ?_)
        | (refine PickV.now rfl ?_)
        | (refine Pick.now rfl ?_)
        | (refine Chk.mk rfl ?_)
        | (refine PickW.now (by first | omega | decide) rfl ?_)
        | (refine Ret.mk rfl))
    · have hlp : ls.length - 1 < ls.length := by omega
      have hz : prevO ls ls.length = some ls[ls.length - 1] := by simp [prevO, h0, hlp]
      rw [hz]
      by_cases hC : ls[ls.length - 1].ac = [67]
      · have ho : openO (some ls[ls.length - 1]) = true := decide_eq_true hC
        rw [ho]
        repeat' ((conv => whnf); first
          | (refine Br.tt ?_)
          | (refine Br.ff ?_)
          | (refine Need.mk (by first | omega | (simp; done) | (simp; omega)) ?_)
          | (refine Wr.keep (by omega) ?_)
          | (refine Cmp.tt (by first | omega | decide) ?_)
          | (refine Cmp.ff (by first | omega | decide) ?_)
          | (refine Rem.pos (by omega) ?_)
          | (refine Quo.pos (by omega) ?_)
          | (refine PickV.now rfl ?_)
          | (refine Pick.now rfl ?_)
          | (refine Chk.mk rfl ?_)
          | (refine PickW.now (by first | omega | decide) rfl ?_)
          | (refine Pick.rec Lnt.cells_length (ls.length - 1) (by omega) hlp rfl ?_)
          | (refine Cmp.tt hC ?_)
          | (refine Ret.mk ?_))
        rw [if_pos rfl, show ((ls.length : Int) - 1) = ((ls.length - 1 : Nat) : Int) by omega]
      · have ho : openO (some ls[ls.length - 1]) = false := decide_eq_false hC
        rw [ho]
        repeat' ((conv => whnf); first
          | (refine Br.tt ?_)
          | (refine Br.ff ?_)
          | (refine Need.mk (by first | omega | (simp; done) | (simp; omega)) ?_)
          | (refine Wr.keep (by omega) ?_)
          | (refine Cmp.tt (by first | omega | decide) ?_)
          | (refine Cmp.ff (by first | omega | decide) ?_)
          | (refine Rem.pos (by omega) ?_)
          | (refine Quo.pos (by omega) ?_)
          | (refine PickV.now rfl ?_)
          | (refine Pick.now rfl ?_)
          | (refine Chk.mk rfl ?_)
          | (refine PickW.now (by first | omega | decide) rfl ?_)
          | (refine Pick.rec Lnt.cells_length (ls.length - 1) (by omega) hlp rfl ?_)
          | (refine Cmp.ff hC ?_)
          | (refine Ret.mk rfl))

set_option maxHeartbeats 16000000 in
/-- A round of the reference's check. -/
theorem rnd_refCheckLines (kind : List UInt8) (hkd : kind = REQ ∨ kind = ANS) (ls : List Lnt) (k : Nat) (hlt : k < ls.length) {K : Ex → Env → Mem → Prop} {R : V} (hl : ls.length ≤ 1000000) (hK : ∀ e m, K .ret e m = resultsW m e [.tmp 4, .tmp 5] fun v => thawW m v fun d => Ret d R)
    (hF : lnE kind (prevO ls k) ls[k] ≠ 0 → .tup [I k, I (lnE kind (prevO ls k) ls[k])] = R)
    (ih : lnE kind (prevO ls k) ls[k] = 0 → LoopW E ⟨0, 1⟩ [0, 1, 6] [] b_ref02_CheckLines_1 [(0, S kind), (1, LL ls), (6, I (k + 1 : Nat))] [] K) :
    wpC E ⟨0, 1⟩ b_ref02_CheckLines_1 [(0, S kind), (1, LL ls), (6, I k)] [] (againK E ⟨0, 1⟩ [0, 1, 6] [] b_ref02_CheckLines_1 K) := by
  have hcl := r_CheckLine g ls[k]
  have has := r_Asks g ls[k].ac
  have hlp : k - 1 < ls.length := by omega
  by_cases hc : chkLn ls[k] = 0
  · have hact := (chkLn_ok hc).1
    have hiff := act_asks hact kind hkd
    have fin : ∀ x, lnE kind (prevO ls k) ls[k] = x → x ≠ 0 → .tup [I k, I x] = R := fun x h hx => by
      rw [← h] at hx ⊢
      exact hF hx
    generalize asksB ls[k].ac = a at *
    by_cases hk : kind = REQ
    · rw [decide_eq_true hk] at hiff
      cases a
      · have hm : actK ls[k].ac ≠ kind := fun h => absurd (hiff.1 h) (by decide)
        have he : lnE kind (prevO ls k) ls[k] = 18 := by
          unfold lnE
          rw [if_neg hm, hc]
          simp [firstI]
        by_cases h0 : k = 0
        all_goals repeat' ((conv => whnf); first
          | (refine Br.tt ?_)
          | (refine Br.ff ?_)
          | (refine Cmp.tt (by assumption) ?_)
          | (refine Cmp.ff (by assumption) ?_)
          | (refine Need.mk (by first | omega | (simp; done) | (simp; omega)) ?_)
          | (refine Wr.keep (by omega) ?_)
          | (refine Cmp.tt (by first | omega | decide) ?_)
          | (refine Cmp.ff (by first | omega | decide) ?_)
          | (refine Rem.pos (by omega) ?_)
          | (refine Quo.pos (by omega) ?_)
          | (refine PickV.now rfl ?_)
          | (refine Pick.now rfl ?_)
          | (refine Chk.mk rfl ?_)
          | (refine PickW.now (by first | omega | decide) rfl ?_)
          | (refine PickW.rec Lnt.cells_length k rfl hlt ?_)
          | (refine CallI.of hcl ?_)
          | (refine CallI.of has ?_)
          | (refine Pick.rec Lnt.cells_length k rfl hlt rfl ?_)
          | (refine Pick.rec Lnt.cells_length (k - 1) (by omega) hlp rfl ?_)
          | (refine Pick.rec2 Lnt.cells_length k rfl hlt rfl ?_)
          | (refine Pick.rec2 Lnt.cells_length (k - 1) (by omega) hlp rfl ?_)
          | (refine Cmp.mk (fun _ => ?_) (fun _ => ?_))
          | (refine (hK _ _).mpr ?_)
          | (refine Ret.mk (fin _ he (by decide))))
      · have hm : actK ls[k].ac = kind := hiff.2 rfl
        by_cases h0 : k = 0
        · have hp : prevO ls k = none := if_pos h0
          by_cases hR : ls[k].ac = [82]
          · have he : lnE kind (prevO ls k) ls[k] = 11 := by
              unfold lnE
              rw [hp, if_pos hm, hc]
              simp [hR, openO, twinO, firstI]
            repeat' ((conv => whnf); first
              | (refine Br.tt ?_)
              | (refine Br.ff ?_)
              | (refine Cmp.tt (by assumption) ?_)
              | (refine Cmp.ff (by assumption) ?_)
              | (refine Need.mk (by first | omega | (simp; done) | (simp; omega)) ?_)
              | (refine Wr.keep (by omega) ?_)
              | (refine Cmp.tt (by first | omega | decide) ?_)
              | (refine Cmp.ff (by first | omega | decide) ?_)
              | (refine Rem.pos (by omega) ?_)
              | (refine Quo.pos (by omega) ?_)
              | (refine PickV.now rfl ?_)
              | (refine Pick.now rfl ?_)
              | (refine Chk.mk rfl ?_)
              | (refine PickW.now (by first | omega | decide) rfl ?_)
              | (refine PickW.rec Lnt.cells_length k rfl hlt ?_)
              | (refine CallI.of hcl ?_)
              | (refine CallI.of has ?_)
              | (refine Pick.rec Lnt.cells_length k rfl hlt rfl ?_)
              | (refine Pick.rec Lnt.cells_length (k - 1) (by omega) hlp rfl ?_)
              | (refine Pick.rec2 Lnt.cells_length k rfl hlt rfl ?_)
              | (refine Pick.rec2 Lnt.cells_length (k - 1) (by omega) hlp rfl ?_)
              | (refine (hK _ _).mpr ?_)
              | (refine Ret.mk (fin _ he (by decide))))
          · have he : lnE kind (prevO ls k) ls[k] = 0 := by
              unfold lnE
              rw [hp, if_pos hm, hc]
              simp [hR, openO, twinO, firstI]
            repeat' ((conv => whnf); first
              | (refine Br.tt ?_)
              | (refine Br.ff ?_)
              | (refine Cmp.tt (by assumption) ?_)
              | (refine Cmp.ff (by assumption) ?_)
              | (refine Need.mk (by first | omega | (simp; done) | (simp; omega)) ?_)
              | (refine Wr.keep (by omega) ?_)
              | (refine Cmp.tt (by first | omega | decide) ?_)
              | (refine Cmp.ff (by first | omega | decide) ?_)
              | (refine Rem.pos (by omega) ?_)
              | (refine Quo.pos (by omega) ?_)
              | (refine PickV.now rfl ?_)
              | (refine Pick.now rfl ?_)
              | (refine Chk.mk rfl ?_)
              | (refine PickW.now (by first | omega | decide) rfl ?_)
              | (refine PickW.rec Lnt.cells_length k rfl hlt ?_)
              | (refine CallI.of hcl ?_)
              | (refine CallI.of has ?_)
              | (refine Pick.rec Lnt.cells_length k rfl hlt rfl ?_)
              | (refine Pick.rec Lnt.cells_length (k - 1) (by omega) hlp rfl ?_)
              | (refine Pick.rec2 Lnt.cells_length k rfl hlt rfl ?_)
              | (refine Pick.rec2 Lnt.cells_length (k - 1) (by omega) hlp rfl ?_)
              | (refine (hK _ _).mpr ?_)
              | (refine LoopW.to (ih he) rfl rfl))
        · have hp : prevO ls k = some ls[k - 1] := by simp [prevO, h0, hlp]
          by_cases hC : ls[k - 1].ac = [67]
          · by_cases hR : ls[k].ac = [82]
            · by_cases hca : ls[k].rq.ca = ls[k - 1].rq.ca
              · by_cases hnm : ls[k].rq.nm = ls[k - 1].rq.nm
                · have he : lnE kind (prevO ls k) ls[k] = 0 := by
                    unfold lnE
                    rw [hp, if_pos hm, hc]
                    simp [hR, hC, openO, twinO, firstI, twinB, hca, hnm]
                  repeat' ((conv => whnf); first
                    | (refine Br.tt ?_)
                    | (refine Br.ff ?_)
                    | (refine Cmp.tt (by assumption) ?_)
                    | (refine Cmp.ff (by assumption) ?_)
                    | (refine Need.mk (by first | omega | (simp; done) | (simp; omega)) ?_)
                    | (refine Wr.keep (by omega) ?_)
                    | (refine Cmp.tt (by first | omega | decide) ?_)
                    | (refine Cmp.ff (by first | omega | decide) ?_)
                    | (refine Rem.pos (by omega) ?_)
                    | (refine Quo.pos (by omega) ?_)
                    | (refine PickV.now rfl ?_)
                    | (refine Pick.now rfl ?_)
                    | (refine Chk.mk rfl ?_)
                    | (refine PickW.now (by first | omega | decide) rfl ?_)
                    | (refine PickW.rec Lnt.cells_length k rfl hlt ?_)
                    | (refine CallI.of hcl ?_)
                    | (refine CallI.of has ?_)
                    | (refine Pick.rec Lnt.cells_length k rfl hlt rfl ?_)
                    | (refine Pick.rec Lnt.cells_length (k - 1) (by omega) hlp rfl ?_)
                    | (refine Pick.rec2 Lnt.cells_length k rfl hlt rfl ?_)
                    | (refine Pick.rec2 Lnt.cells_length (k - 1) (by omega) hlp rfl ?_)
                    | (refine (hK _ _).mpr ?_)
                    | (refine LoopW.to (ih he) rfl rfl))
                · have hnm' : ¬ ls[k - 1].rq.nm = ls[k].rq.nm := fun e => hnm e.symm
                  have he : lnE kind (prevO ls k) ls[k] = 11 := by
                    unfold lnE
                    rw [hp, if_pos hm, hc]
                    simp [hR, hC, openO, twinO, firstI, twinB, hnm']
                  repeat' ((conv => whnf); first
                    | (refine Br.tt ?_)
                    | (refine Br.ff ?_)
                    | (refine Cmp.tt (by assumption) ?_)
                    | (refine Cmp.ff (by assumption) ?_)
                    | (refine Need.mk (by first | omega | (simp; done) | (simp; omega)) ?_)
                    | (refine Wr.keep (by omega) ?_)
                    | (refine Cmp.tt (by first | omega | decide) ?_)
                    | (refine Cmp.ff (by first | omega | decide) ?_)
                    | (refine Rem.pos (by omega) ?_)
                    | (refine Quo.pos (by omega) ?_)
                    | (refine PickV.now rfl ?_)
                    | (refine Pick.now rfl ?_)
                    | (refine Chk.mk rfl ?_)
                    | (refine PickW.now (by first | omega | decide) rfl ?_)
                    | (refine PickW.rec Lnt.cells_length k rfl hlt ?_)
                    | (refine CallI.of hcl ?_)
                    | (refine CallI.of has ?_)
                    | (refine Pick.rec Lnt.cells_length k rfl hlt rfl ?_)
                    | (refine Pick.rec Lnt.cells_length (k - 1) (by omega) hlp rfl ?_)
                    | (refine Pick.rec2 Lnt.cells_length k rfl hlt rfl ?_)
                    | (refine Pick.rec2 Lnt.cells_length (k - 1) (by omega) hlp rfl ?_)
                    | (refine (hK _ _).mpr ?_)
                    | (refine Ret.mk (fin _ he (by decide))))
              · have hca' : ¬ ls[k - 1].rq.ca = ls[k].rq.ca := fun e => hca e.symm
                have he : lnE kind (prevO ls k) ls[k] = 11 := by
                  unfold lnE
                  rw [hp, if_pos hm, hc]
                  simp [hR, hC, openO, twinO, firstI, twinB, hca']
                repeat' ((conv => whnf); first
                  | (refine Br.tt ?_)
                  | (refine Br.ff ?_)
                  | (refine Cmp.tt (by assumption) ?_)
                  | (refine Cmp.ff (by assumption) ?_)
                  | (refine Need.mk (by first | omega | (simp; done) | (simp; omega)) ?_)
                  | (refine Wr.keep (by omega) ?_)
                  | (refine Cmp.tt (by first | omega | decide) ?_)
                  | (refine Cmp.ff (by first | omega | decide) ?_)
                  | (refine Rem.pos (by omega) ?_)
                  | (refine Quo.pos (by omega) ?_)
                  | (refine PickV.now rfl ?_)
                  | (refine Pick.now rfl ?_)
                  | (refine Chk.mk rfl ?_)
                  | (refine PickW.now (by first | omega | decide) rfl ?_)
                  | (refine PickW.rec Lnt.cells_length k rfl hlt ?_)
                  | (refine CallI.of hcl ?_)
                  | (refine CallI.of has ?_)
                  | (refine Pick.rec Lnt.cells_length k rfl hlt rfl ?_)
                  | (refine Pick.rec Lnt.cells_length (k - 1) (by omega) hlp rfl ?_)
                  | (refine Pick.rec2 Lnt.cells_length k rfl hlt rfl ?_)
                  | (refine Pick.rec2 Lnt.cells_length (k - 1) (by omega) hlp rfl ?_)
                  | (refine (hK _ _).mpr ?_)
                  | (refine Ret.mk (fin _ he (by decide))))
            · have he : lnE kind (prevO ls k) ls[k] = 11 := by
                unfold lnE
                rw [hp, if_pos hm, hc]
                simp [hR, hC, openO, twinO, firstI]
              repeat' ((conv => whnf); first
                | (refine Br.tt ?_)
                | (refine Br.ff ?_)
                | (refine Cmp.tt (by assumption) ?_)
                | (refine Cmp.ff (by assumption) ?_)
                | (refine Need.mk (by first | omega | (simp; done) | (simp; omega)) ?_)
                | (refine Wr.keep (by omega) ?_)
                | (refine Cmp.tt (by first | omega | decide) ?_)
                | (refine Cmp.ff (by first | omega | decide) ?_)
                | (refine Rem.pos (by omega) ?_)
                | (refine Quo.pos (by omega) ?_)
                | (refine PickV.now rfl ?_)
                | (refine Pick.now rfl ?_)
                | (refine Chk.mk rfl ?_)
                | (refine PickW.now (by first | omega | decide) rfl ?_)
                | (refine PickW.rec Lnt.cells_length k rfl hlt ?_)
                | (refine CallI.of hcl ?_)
                | (refine CallI.of has ?_)
                | (refine Pick.rec Lnt.cells_length k rfl hlt rfl ?_)
                | (refine Pick.rec Lnt.cells_length (k - 1) (by omega) hlp rfl ?_)
                | (refine Pick.rec2 Lnt.cells_length k rfl hlt rfl ?_)
                | (refine Pick.rec2 Lnt.cells_length (k - 1) (by omega) hlp rfl ?_)
                | (refine (hK _ _).mpr ?_)
                | (refine Ret.mk (fin _ he (by decide))))
          · by_cases hR : ls[k].ac = [82]
            · have he : lnE kind (prevO ls k) ls[k] = 11 := by
                unfold lnE
                rw [hp, if_pos hm, hc]
                simp [hR, hC, openO, twinO, firstI]
              repeat' ((conv => whnf); first
                | (refine Br.tt ?_)
                | (refine Br.ff ?_)
                | (refine Cmp.tt (by assumption) ?_)
                | (refine Cmp.ff (by assumption) ?_)
                | (refine Need.mk (by first | omega | (simp; done) | (simp; omega)) ?_)
                | (refine Wr.keep (by omega) ?_)
                | (refine Cmp.tt (by first | omega | decide) ?_)
                | (refine Cmp.ff (by first | omega | decide) ?_)
                | (refine Rem.pos (by omega) ?_)
                | (refine Quo.pos (by omega) ?_)
                | (refine PickV.now rfl ?_)
                | (refine Pick.now rfl ?_)
                | (refine Chk.mk rfl ?_)
                | (refine PickW.now (by first | omega | decide) rfl ?_)
                | (refine PickW.rec Lnt.cells_length k rfl hlt ?_)
                | (refine CallI.of hcl ?_)
                | (refine CallI.of has ?_)
                | (refine Pick.rec Lnt.cells_length k rfl hlt rfl ?_)
                | (refine Pick.rec Lnt.cells_length (k - 1) (by omega) hlp rfl ?_)
                | (refine Pick.rec2 Lnt.cells_length k rfl hlt rfl ?_)
                | (refine Pick.rec2 Lnt.cells_length (k - 1) (by omega) hlp rfl ?_)
                | (refine (hK _ _).mpr ?_)
                | (refine Ret.mk (fin _ he (by decide))))
            · have he : lnE kind (prevO ls k) ls[k] = 0 := by
                unfold lnE
                rw [hp, if_pos hm, hc]
                simp [hR, hC, openO, twinO, firstI]
              repeat' ((conv => whnf); first
                | (refine Br.tt ?_)
                | (refine Br.ff ?_)
                | (refine Cmp.tt (by assumption) ?_)
                | (refine Cmp.ff (by assumption) ?_)
                | (refine Need.mk (by first | omega | (simp; done) | (simp; omega)) ?_)
                | (refine Wr.keep (by omega) ?_)
                | (refine Cmp.tt (by first | omega | decide) ?_)
                | (refine Cmp.ff (by first | omega | decide) ?_)
                | (refine Rem.pos (by omega) ?_)
                | (refine Quo.pos (by omega) ?_)
                | (refine PickV.now rfl ?_)
                | (refine Pick.now rfl ?_)
                | (refine Chk.mk rfl ?_)
                | (refine PickW.now (by first | omega | decide) rfl ?_)
                | (refine PickW.rec Lnt.cells_length k rfl hlt ?_)
                | (refine CallI.of hcl ?_)
                | (refine CallI.of has ?_)
                | (refine Pick.rec Lnt.cells_length k rfl hlt rfl ?_)
                | (refine Pick.rec Lnt.cells_length (k - 1) (by omega) hlp rfl ?_)
                | (refine Pick.rec2 Lnt.cells_length k rfl hlt rfl ?_)
                | (refine Pick.rec2 Lnt.cells_length (k - 1) (by omega) hlp rfl ?_)
                | (refine (hK _ _).mpr ?_)
                | (refine LoopW.to (ih he) rfl rfl))
    · rw [decide_eq_false hk] at hiff
      cases a
      · have hm : actK ls[k].ac = kind := hiff.2 rfl
        by_cases h0 : k = 0
        · have hp : prevO ls k = none := if_pos h0
          by_cases hR : ls[k].ac = [82]
          · have he : lnE kind (prevO ls k) ls[k] = 11 := by
              unfold lnE
              rw [hp, if_pos hm, hc]
              simp [hR, openO, twinO, firstI]
            repeat' ((conv => whnf); first
              | (refine Br.tt ?_)
              | (refine Br.ff ?_)
              | (refine Cmp.tt (by assumption) ?_)
              | (refine Cmp.ff (by assumption) ?_)
              | (refine Need.mk (by first | omega | (simp; done) | (simp; omega)) ?_)
              | (refine Wr.keep (by omega) ?_)
              | (refine Cmp.tt (by first | omega | decide) ?_)
              | (refine Cmp.ff (by first | omega | decide) ?_)
              | (refine Rem.pos (by omega) ?_)
              | (refine Quo.pos (by omega) ?_)
              | (refine PickV.now rfl ?_)
              | (refine Pick.now rfl ?_)
              | (refine Chk.mk rfl ?_)
              | (refine PickW.now (by first | omega | decide) rfl ?_)
              | (refine PickW.rec Lnt.cells_length k rfl hlt ?_)
              | (refine CallI.of hcl ?_)
              | (refine CallI.of has ?_)
              | (refine Pick.rec Lnt.cells_length k rfl hlt rfl ?_)
              | (refine Pick.rec Lnt.cells_length (k - 1) (by omega) hlp rfl ?_)
              | (refine Pick.rec2 Lnt.cells_length k rfl hlt rfl ?_)
              | (refine Pick.rec2 Lnt.cells_length (k - 1) (by omega) hlp rfl ?_)
              | (refine (hK _ _).mpr ?_)
              | (refine Ret.mk (fin _ he (by decide))))
          · have he : lnE kind (prevO ls k) ls[k] = 0 := by
              unfold lnE
              rw [hp, if_pos hm, hc]
              simp [hR, openO, twinO, firstI]
            repeat' ((conv => whnf); first
              | (refine Br.tt ?_)
              | (refine Br.ff ?_)
              | (refine Cmp.tt (by assumption) ?_)
              | (refine Cmp.ff (by assumption) ?_)
              | (refine Need.mk (by first | omega | (simp; done) | (simp; omega)) ?_)
              | (refine Wr.keep (by omega) ?_)
              | (refine Cmp.tt (by first | omega | decide) ?_)
              | (refine Cmp.ff (by first | omega | decide) ?_)
              | (refine Rem.pos (by omega) ?_)
              | (refine Quo.pos (by omega) ?_)
              | (refine PickV.now rfl ?_)
              | (refine Pick.now rfl ?_)
              | (refine Chk.mk rfl ?_)
              | (refine PickW.now (by first | omega | decide) rfl ?_)
              | (refine PickW.rec Lnt.cells_length k rfl hlt ?_)
              | (refine CallI.of hcl ?_)
              | (refine CallI.of has ?_)
              | (refine Pick.rec Lnt.cells_length k rfl hlt rfl ?_)
              | (refine Pick.rec Lnt.cells_length (k - 1) (by omega) hlp rfl ?_)
              | (refine Pick.rec2 Lnt.cells_length k rfl hlt rfl ?_)
              | (refine Pick.rec2 Lnt.cells_length (k - 1) (by omega) hlp rfl ?_)
              | (refine (hK _ _).mpr ?_)
              | (refine LoopW.to (ih he) rfl rfl))
        · have hp : prevO ls k = some ls[k - 1] := by simp [prevO, h0, hlp]
          by_cases hC : ls[k - 1].ac = [67]
          · by_cases hR : ls[k].ac = [82]
            · by_cases hca : ls[k].rq.ca = ls[k - 1].rq.ca
              · by_cases hnm : ls[k].rq.nm = ls[k - 1].rq.nm
                · have he : lnE kind (prevO ls k) ls[k] = 0 := by
                    unfold lnE
                    rw [hp, if_pos hm, hc]
                    simp [hR, hC, openO, twinO, firstI, twinB, hca, hnm]
                  repeat' ((conv => whnf); first
                    | (refine Br.tt ?_)
                    | (refine Br.ff ?_)
                    | (refine Cmp.tt (by assumption) ?_)
                    | (refine Cmp.ff (by assumption) ?_)
                    | (refine Need.mk (by first | omega | (simp; done) | (simp; omega)) ?_)
                    | (refine Wr.keep (by omega) ?_)
                    | (refine Cmp.tt (by first | omega | decide) ?_)
                    | (refine Cmp.ff (by first | omega | decide) ?_)
                    | (refine Rem.pos (by omega) ?_)
                    | (refine Quo.pos (by omega) ?_)
                    | (refine PickV.now rfl ?_)
                    | (refine Pick.now rfl ?_)
                    | (refine Chk.mk rfl ?_)
                    | (refine PickW.now (by first | omega | decide) rfl ?_)
                    | (refine PickW.rec Lnt.cells_length k rfl hlt ?_)
                    | (refine CallI.of hcl ?_)
                    | (refine CallI.of has ?_)
                    | (refine Pick.rec Lnt.cells_length k rfl hlt rfl ?_)
                    | (refine Pick.rec Lnt.cells_length (k - 1) (by omega) hlp rfl ?_)
                    | (refine Pick.rec2 Lnt.cells_length k rfl hlt rfl ?_)
                    | (refine Pick.rec2 Lnt.cells_length (k - 1) (by omega) hlp rfl ?_)
                    | (refine (hK _ _).mpr ?_)
                    | (refine LoopW.to (ih he) rfl rfl))
                · have hnm' : ¬ ls[k - 1].rq.nm = ls[k].rq.nm := fun e => hnm e.symm
                  have he : lnE kind (prevO ls k) ls[k] = 11 := by
                    unfold lnE
                    rw [hp, if_pos hm, hc]
                    simp [hR, hC, openO, twinO, firstI, twinB, hnm']
                  repeat' ((conv => whnf); first
                    | (refine Br.tt ?_)
                    | (refine Br.ff ?_)
                    | (refine Cmp.tt (by assumption) ?_)
                    | (refine Cmp.ff (by assumption) ?_)
                    | (refine Need.mk (by first | omega | (simp; done) | (simp; omega)) ?_)
                    | (refine Wr.keep (by omega) ?_)
                    | (refine Cmp.tt (by first | omega | decide) ?_)
                    | (refine Cmp.ff (by first | omega | decide) ?_)
                    | (refine Rem.pos (by omega) ?_)
                    | (refine Quo.pos (by omega) ?_)
                    | (refine PickV.now rfl ?_)
                    | (refine Pick.now rfl ?_)
                    | (refine Chk.mk rfl ?_)
                    | (refine PickW.now (by first | omega | decide) rfl ?_)
                    | (refine PickW.rec Lnt.cells_length k rfl hlt ?_)
                    | (refine CallI.of hcl ?_)
                    | (refine CallI.of has ?_)
                    | (refine Pick.rec Lnt.cells_length k rfl hlt rfl ?_)
                    | (refine Pick.rec Lnt.cells_length (k - 1) (by omega) hlp rfl ?_)
                    | (refine Pick.rec2 Lnt.cells_length k rfl hlt rfl ?_)
                    | (refine Pick.rec2 Lnt.cells_length (k - 1) (by omega) hlp rfl ?_)
                    | (refine (hK _ _).mpr ?_)
                    | (refine Ret.mk (fin _ he (by decide))))
              · have hca' : ¬ ls[k - 1].rq.ca = ls[k].rq.ca := fun e => hca e.symm
                have he : lnE kind (prevO ls k) ls[k] = 11 := by
                  unfold lnE
                  rw [hp, if_pos hm, hc]
                  simp [hR, hC, openO, twinO, firstI, twinB, hca']
                repeat' ((conv => whnf); first
                  | (refine Br.tt ?_)
                  | (refine Br.ff ?_)
                  | (refine Cmp.tt (by assumption) ?_)
                  | (refine Cmp.ff (by assumption) ?_)
                  | (refine Need.mk (by first | omega | (simp; done) | (simp; omega)) ?_)
                  | (refine Wr.keep (by omega) ?_)
                  | (refine Cmp.tt (by first | omega | decide) ?_)
                  | (refine Cmp.ff (by first | omega | decide) ?_)
                  | (refine Rem.pos (by omega) ?_)
                  | (refine Quo.pos (by omega) ?_)
                  | (refine PickV.now rfl ?_)
                  | (refine Pick.now rfl ?_)
                  | (refine Chk.mk rfl ?_)
                  | (refine PickW.now (by first | omega | decide) rfl ?_)
                  | (refine PickW.rec Lnt.cells_length k rfl hlt ?_)
                  | (refine CallI.of hcl ?_)
                  | (refine CallI.of has ?_)
                  | (refine Pick.rec Lnt.cells_length k rfl hlt rfl ?_)
                  | (refine Pick.rec Lnt.cells_length (k - 1) (by omega) hlp rfl ?_)
                  | (refine Pick.rec2 Lnt.cells_length k rfl hlt rfl ?_)
                  | (refine Pick.rec2 Lnt.cells_length (k - 1) (by omega) hlp rfl ?_)
                  | (refine (hK _ _).mpr ?_)
                  | (refine Ret.mk (fin _ he (by decide))))
            · have he : lnE kind (prevO ls k) ls[k] = 11 := by
                unfold lnE
                rw [hp, if_pos hm, hc]
                simp [hR, hC, openO, twinO, firstI]
              repeat' ((conv => whnf); first
                | (refine Br.tt ?_)
                | (refine Br.ff ?_)
                | (refine Cmp.tt (by assumption) ?_)
                | (refine Cmp.ff (by assumption) ?_)
                | (refine Need.mk (by first | omega | (simp; done) | (simp; omega)) ?_)
                | (refine Wr.keep (by omega) ?_)
                | (refine Cmp.tt (by first | omega | decide) ?_)
                | (refine Cmp.ff (by first | omega | decide) ?_)
                | (refine Rem.pos (by omega) ?_)
                | (refine Quo.pos (by omega) ?_)
                | (refine PickV.now rfl ?_)
                | (refine Pick.now rfl ?_)
                | (refine Chk.mk rfl ?_)
                | (refine PickW.now (by first | omega | decide) rfl ?_)
                | (refine PickW.rec Lnt.cells_length k rfl hlt ?_)
                | (refine CallI.of hcl ?_)
                | (refine CallI.of has ?_)
                | (refine Pick.rec Lnt.cells_length k rfl hlt rfl ?_)
                | (refine Pick.rec Lnt.cells_length (k - 1) (by omega) hlp rfl ?_)
                | (refine Pick.rec2 Lnt.cells_length k rfl hlt rfl ?_)
                | (refine Pick.rec2 Lnt.cells_length (k - 1) (by omega) hlp rfl ?_)
                | (refine (hK _ _).mpr ?_)
                | (refine Ret.mk (fin _ he (by decide))))
          · by_cases hR : ls[k].ac = [82]
            · have he : lnE kind (prevO ls k) ls[k] = 11 := by
                unfold lnE
                rw [hp, if_pos hm, hc]
                simp [hR, hC, openO, twinO, firstI]
              repeat' ((conv => whnf); first
                | (refine Br.tt ?_)
                | (refine Br.ff ?_)
                | (refine Cmp.tt (by assumption) ?_)
                | (refine Cmp.ff (by assumption) ?_)
                | (refine Need.mk (by first | omega | (simp; done) | (simp; omega)) ?_)
                | (refine Wr.keep (by omega) ?_)
                | (refine Cmp.tt (by first | omega | decide) ?_)
                | (refine Cmp.ff (by first | omega | decide) ?_)
                | (refine Rem.pos (by omega) ?_)
                | (refine Quo.pos (by omega) ?_)
                | (refine PickV.now rfl ?_)
                | (refine Pick.now rfl ?_)
                | (refine Chk.mk rfl ?_)
                | (refine PickW.now (by first | omega | decide) rfl ?_)
                | (refine PickW.rec Lnt.cells_length k rfl hlt ?_)
                | (refine CallI.of hcl ?_)
                | (refine CallI.of has ?_)
                | (refine Pick.rec Lnt.cells_length k rfl hlt rfl ?_)
                | (refine Pick.rec Lnt.cells_length (k - 1) (by omega) hlp rfl ?_)
                | (refine Pick.rec2 Lnt.cells_length k rfl hlt rfl ?_)
                | (refine Pick.rec2 Lnt.cells_length (k - 1) (by omega) hlp rfl ?_)
                | (refine (hK _ _).mpr ?_)
                | (refine Ret.mk (fin _ he (by decide))))
            · have he : lnE kind (prevO ls k) ls[k] = 0 := by
                unfold lnE
                rw [hp, if_pos hm, hc]
                simp [hR, hC, openO, twinO, firstI]
              repeat' ((conv => whnf); first
                | (refine Br.tt ?_)
                | (refine Br.ff ?_)
                | (refine Cmp.tt (by assumption) ?_)
                | (refine Cmp.ff (by assumption) ?_)
                | (refine Need.mk (by first | omega | (simp; done) | (simp; omega)) ?_)
                | (refine Wr.keep (by omega) ?_)
                | (refine Cmp.tt (by first | omega | decide) ?_)
                | (refine Cmp.ff (by first | omega | decide) ?_)
                | (refine Rem.pos (by omega) ?_)
                | (refine Quo.pos (by omega) ?_)
                | (refine PickV.now rfl ?_)
                | (refine Pick.now rfl ?_)
                | (refine Chk.mk rfl ?_)
                | (refine PickW.now (by first | omega | decide) rfl ?_)
                | (refine PickW.rec Lnt.cells_length k rfl hlt ?_)
                | (refine CallI.of hcl ?_)
                | (refine CallI.of has ?_)
                | (refine Pick.rec Lnt.cells_length k rfl hlt rfl ?_)
                | (refine Pick.rec Lnt.cells_length (k - 1) (by omega) hlp rfl ?_)
                | (refine Pick.rec2 Lnt.cells_length k rfl hlt rfl ?_)
                | (refine Pick.rec2 Lnt.cells_length (k - 1) (by omega) hlp rfl ?_)
                | (refine (hK _ _).mpr ?_)
                | (refine LoopW.to (ih he) rfl rfl))
      · have hm : actK ls[k].ac ≠ kind := fun h => absurd (hiff.1 h) (by decide)
        have he : lnE kind (prevO ls k) ls[k] = 18 := by
          unfold lnE
          rw [if_neg hm, hc]
          simp [firstI]
        by_cases h0 : k = 0
        all_goals repeat' ((conv => whnf); first
          | (refine Br.tt ?_)
          | (refine Br.ff ?_)
          | (refine Cmp.tt (by assumption) ?_)
          | (refine Cmp.ff (by assumption) ?_)
          | (refine Need.mk (by first | omega | (simp; done) | (simp; omega)) ?_)
          | (refine Wr.keep (by omega) ?_)
          | (refine Cmp.tt (by first | omega | decide) ?_)
          | (refine Cmp.ff (by first | omega | decide) ?_)
          | (refine Rem.pos (by omega) ?_)
          | (refine Quo.pos (by omega) ?_)
          | (refine PickV.now rfl ?_)
          | (refine Pick.now rfl ?_)
          | (refine Chk.mk rfl ?_)
          | (refine PickW.now (by first | omega | decide) rfl ?_)
          | (refine PickW.rec Lnt.cells_length k rfl hlt ?_)
          | (refine CallI.of hcl ?_)
          | (refine CallI.of has ?_)
          | (refine Pick.rec Lnt.cells_length k rfl hlt rfl ?_)
          | (refine Pick.rec Lnt.cells_length (k - 1) (by omega) hlp rfl ?_)
          | (refine Pick.rec2 Lnt.cells_length k rfl hlt rfl ?_)
          | (refine Pick.rec2 Lnt.cells_length (k - 1) (by omega) hlp rfl ?_)
          | (refine Cmp.mk (fun _ => ?_) (fun _ => ?_))
          | (refine (hK _ _).mpr ?_)
          | (refine Ret.mk (fin _ he (by decide))))
  · have he : lnE kind (prevO ls k) ls[k] = chkLn ls[k] := by
      unfold lnE
      simp [firstI, hc]
    have fin : .tup [I k, I (chkLn ls[k])] = R := by
      rw [he] at hF
      exact hF hc
    by_cases h0 : k = 0
    all_goals repeat' ((conv => whnf); first
      | (refine Br.tt ?_)
      | (refine Br.ff ?_)
      | (refine Cmp.tt (by assumption) ?_)
      | (refine Cmp.ff (by assumption) ?_)
      | (refine Need.mk (by first | omega | (simp; done) | (simp; omega)) ?_)
      | (refine Wr.keep (by omega) ?_)
      | (refine Cmp.tt (by first | omega | decide) ?_)
      | (refine Cmp.ff (by first | omega | decide) ?_)
      | (refine Rem.pos (by omega) ?_)
      | (refine Quo.pos (by omega) ?_)
      | (refine PickV.now rfl ?_)
      | (refine Pick.now rfl ?_)
      | (refine Chk.mk rfl ?_)
      | (refine PickW.now (by first | omega | decide) rfl ?_)
      | (refine PickW.rec Lnt.cells_length k rfl hlt ?_)
      | (refine CallI.of hcl ?_)
      | (refine CallI.of has ?_)
      | (refine Pick.rec Lnt.cells_length k rfl hlt rfl ?_)
      | (refine Pick.rec Lnt.cells_length (k - 1) (by omega) hlp rfl ?_)
      | (refine Pick.rec2 Lnt.cells_length k rfl hlt rfl ?_)
      | (refine Pick.rec2 Lnt.cells_length (k - 1) (by omega) hlp rfl ?_)
      | (refine Cmp.mk (fun _ => ?_) (fun _ => ?_))
      | (refine (hK _ _).mpr ?_)
      | (refine Ret.mk fin))

set_option maxHeartbeats 4000000 in
theorem r_CheckLines (kind : List UInt8) (hkd : kind = REQ ∨ kind = ANS) (ls : List Lnt) (hl : ls.length ≤ 1000000) : Fc E n_ref02_CheckLines [S kind, LL ls] (.tup [I ((chkLs kind none 0 ls).1 : Nat), I (chkLs kind none 0 ls).2]) := by
  refine g.fn code_ref02_CheckLines rfl ?_
  repeat' ((conv => whnf); first
    | (refine Br.tt ?_)
    | (refine Br.ff ?_)
    | (refine Need.mk (by first | omega | (simp; done) | (simp; omega)) ?_)
    | (refine Wr.keep (by omega) ?_)
    | (refine Cmp.tt (by first | omega | decide) ?_)
    | (refine Cmp.ff (by first | omega | decide) ?_)
    | (refine Rem.pos (by omega) ?_)
    | (refine Quo.pos (by omega) ?_)
    | (refine PickV.now rfl ?_)
    | (refine Pick.now rfl ?_)
    | (refine Chk.mk rfl ?_)
    | (refine PickW.now (by first | omega | decide) rfl ?_))
  refine LoopW.to (LoopW.upP g (fun k => [(0, S kind), (1, LL ls), (6, I k)]) (fun _ => []) (fun k => chkLs kind (prevO ls k) k (ls.drop k) = chkLs kind none 0 ls) ls.length (fun k hk hp ih => ?_) 0 (Nat.zero_le _) rfl) rfl rfl
  by_cases hlt : k < ls.length
  · have hs := chkLs_step (kind := kind) hlt
    refine rnd_refCheckLines g kind hkd ls k hlt hl (fun _ _ => rfl) (fun hz => ?_) (fun hz => ?_)
    · rw [if_neg hz, hp] at hs
      rw [hs]
    · rw [if_pos hz, hp] at hs
      exact ih hlt hs.symm
  · obtain rfl : k = ls.length := by omega
    rw [← hp, chkLs_end]
    by_cases h0 : ls.length = 0
    · have hz : prevO ls ls.length = none := if_pos h0
      rw [hz]
      repeat' ((conv => whnf); first
        | (refine Br.tt ?_)
        | (refine Br.ff ?_)
        | (refine Need.mk (by first | omega | (simp; done) | (simp; omega)) ?_)
        | (refine Wr.keep (by omega) ?_)
        | (refine Cmp.tt (by first | omega | decide) ?_)
        | (refine Cmp.ff (by first | omega | decide) ?_)
        | (refine Rem.pos (by omega) ?_)
        | (refine Quo.pos (by omega) ?_)
        | (refine PickV.now rfl ?_)
        | (refine Pick.now rfl ?_)
        | (refine Chk.mk rfl ?_)
        | (refine PickW.now (by first | omega | decide) rfl ?_)
        | (refine Ret.mk rfl))
    · have hlp : ls.length - 1 < ls.length := by omega
      have hz : prevO ls ls.length = some ls[ls.length - 1] := by simp [prevO, h0, hlp]
      rw [hz]
      by_cases hC : ls[ls.length - 1].ac = [67]
      · have ho : openO (some ls[ls.length - 1]) = true := decide_eq_true hC
        rw [ho]
        repeat' ((conv => whnf); first
          | (refine Br.tt ?_)
          | (refine Br.ff ?_)
          | (refine Need.mk (by first | omega | (simp; done) | (simp; omega)) ?_)
          | (refine Wr.keep (by omega) ?_)
          | (refine Cmp.tt (by first | omega | decide) ?_)
          | (refine Cmp.ff (by first | omega | decide) ?_)
          | (refine Rem.pos (by omega) ?_)
          | (refine Quo.pos (by omega) ?_)
          | (refine PickV.now rfl ?_)
          | (refine Pick.now rfl ?_)
          | (refine Chk.mk rfl ?_)
          | (refine PickW.now (by first | omega | decide) rfl ?_)
          | (refine Pick.rec Lnt.cells_length (ls.length - 1) (by omega) hlp rfl ?_)
          | (refine Cmp.tt hC ?_)
          | (refine Ret.mk ?_))
        rw [if_pos rfl, show ((ls.length : Int) - 1) = ((ls.length - 1 : Nat) : Int) by omega]
      · have ho : openO (some ls[ls.length - 1]) = false := decide_eq_false hC
        rw [ho]
        repeat' ((conv => whnf); first
          | (refine Br.tt ?_)
          | (refine Br.ff ?_)
          | (refine Need.mk (by first | omega | (simp; done) | (simp; omega)) ?_)
          | (refine Wr.keep (by omega) ?_)
          | (refine Cmp.tt (by first | omega | decide) ?_)
          | (refine Cmp.ff (by first | omega | decide) ?_)
          | (refine Rem.pos (by omega) ?_)
          | (refine Quo.pos (by omega) ?_)
          | (refine PickV.now rfl ?_)
          | (refine Pick.now rfl ?_)
          | (refine Chk.mk rfl ?_)
          | (refine PickW.now (by first | omega | decide) rfl ?_)
          | (refine Pick.rec Lnt.cells_length (ls.length - 1) (by omega) hlp rfl ?_)
          | (refine Cmp.ff hC ?_)
          | (refine Ret.mk rfl))

omit g in
theorem chkMs_eq (m : Mst) : chkMs m = if firstI [if (!msgB m.ki) = true then 13 else 0, headE m.ai m.se m.da, if 64 < m.ls.length then 5 else 0] = 0 then (chkLs m.ki none 0 m.ls).2 else firstI [if (!msgB m.ki) = true then 13 else 0, headE m.ai m.se m.da, if 64 < m.ls.length then 5 else 0] := by
  unfold chkMs
  generalize (if (!msgB m.ki) = true then (13 : Int) else 0) = a
  generalize headE m.ai m.se m.da = b
  generalize (if 64 < m.ls.length then (5 : Int) else 0) = c
  generalize (chkLs m.ki none 0 m.ls).2 = d
  by_cases ha : a = 0 <;> by_cases hb : b = 0 <;> by_cases hc : c = 0 <;> by_cases hd : d = 0 <;> simp [firstI, ha, hb, hc, hd]

set_option maxHeartbeats 4000000 in
theorem s_CheckMessage (m : Mst) (hl : m.ls.length ≤ 1000000) : Fc E n_message_CheckMessage [Msv m] (I (chkMs m)) := by
  refine g.fn code_message_CheckMessage rfl ?_
  have h1 := s_isMessage g m.ki
  have h2 := s_checkHead g m.ai m.se m.da
  have h3 := s_checkLines g m.ki m.ls hl
  rw [chkMs_eq]
  generalize headE m.ai m.se m.da = b at *
  generalize msgB m.ki = a at *
  by_cases hn : 64 < m.ls.length
  · rw [if_pos hn]
    by_cases hz : firstI [if (!a) = true then 13 else 0, b, 5] = 0
    · rw [if_pos hz]
      repeat' ((conv => whnf); first
        | (refine Br.tt ?_)
        | (refine Br.ff ?_)
        | (refine Need.mk (by first | omega | (simp; done) | (simp; omega)) ?_)
        | (refine Wr.keep (by omega) ?_)
        | (refine Cmp.tt (by first | omega | decide) ?_)
        | (refine Cmp.ff (by first | omega | decide) ?_)
        | (refine Rem.pos (by omega) ?_)
        | (refine Quo.pos (by omega) ?_)
        | (refine PickV.now rfl ?_)
        | (refine Pick.now rfl ?_)
        | (refine Chk.mk rfl ?_)
        | (refine PickW.now (by first | omega | decide) rfl ?_)
        | (apply CallI.of; assumption)
        | (refine CallI.of (s_mwhen g _ _) ?_)
        | (refine CallI.of (s_mfirst3 g _ _ _) ?_)
        | (refine Cmp.tt hz ?_)
        | (refine Ret.mk rfl))
    · rw [if_neg hz]
      repeat' ((conv => whnf); first
        | (refine Br.tt ?_)
        | (refine Br.ff ?_)
        | (refine Need.mk (by first | omega | (simp; done) | (simp; omega)) ?_)
        | (refine Wr.keep (by omega) ?_)
        | (refine Cmp.tt (by first | omega | decide) ?_)
        | (refine Cmp.ff (by first | omega | decide) ?_)
        | (refine Rem.pos (by omega) ?_)
        | (refine Quo.pos (by omega) ?_)
        | (refine PickV.now rfl ?_)
        | (refine Pick.now rfl ?_)
        | (refine Chk.mk rfl ?_)
        | (refine PickW.now (by first | omega | decide) rfl ?_)
        | (apply CallI.of; assumption)
        | (refine CallI.of (s_mwhen g _ _) ?_)
        | (refine CallI.of (s_mfirst3 g _ _ _) ?_)
        | (refine Cmp.ff hz ?_)
        | (refine Ret.mk rfl))
  · rw [if_neg hn]
    by_cases hz : firstI [if (!a) = true then 13 else 0, b, 0] = 0
    · rw [if_pos hz]
      repeat' ((conv => whnf); first
        | (refine Br.tt ?_)
        | (refine Br.ff ?_)
        | (refine Need.mk (by first | omega | (simp; done) | (simp; omega)) ?_)
        | (refine Wr.keep (by omega) ?_)
        | (refine Cmp.tt (by first | omega | decide) ?_)
        | (refine Cmp.ff (by first | omega | decide) ?_)
        | (refine Rem.pos (by omega) ?_)
        | (refine Quo.pos (by omega) ?_)
        | (refine PickV.now rfl ?_)
        | (refine Pick.now rfl ?_)
        | (refine Chk.mk rfl ?_)
        | (refine PickW.now (by first | omega | decide) rfl ?_)
        | (apply CallI.of; assumption)
        | (refine CallI.of (s_mwhen g _ _) ?_)
        | (refine CallI.of (s_mfirst3 g _ _ _) ?_)
        | (refine Cmp.tt hz ?_)
        | (refine Ret.mk rfl))
    · rw [if_neg hz]
      repeat' ((conv => whnf); first
        | (refine Br.tt ?_)
        | (refine Br.ff ?_)
        | (refine Need.mk (by first | omega | (simp; done) | (simp; omega)) ?_)
        | (refine Wr.keep (by omega) ?_)
        | (refine Cmp.tt (by first | omega | decide) ?_)
        | (refine Cmp.ff (by first | omega | decide) ?_)
        | (refine Rem.pos (by omega) ?_)
        | (refine Quo.pos (by omega) ?_)
        | (refine PickV.now rfl ?_)
        | (refine Pick.now rfl ?_)
        | (refine Chk.mk rfl ?_)
        | (refine PickW.now (by first | omega | decide) rfl ?_)
        | (apply CallI.of; assumption)
        | (refine CallI.of (s_mwhen g _ _) ?_)
        | (refine CallI.of (s_mfirst3 g _ _ _) ?_)
        | (refine Cmp.ff hz ?_)
        | (refine Ret.mk rfl))

set_option maxHeartbeats 4000000 in
theorem r_CheckMessage (m : Mst) (hl : m.ls.length ≤ 1000000) : Fc E n_ref02_CheckMessage [Msv m] (I (chkMs m)) := by
  refine g.fn code_ref02_CheckMessage rfl ?_
  have h2 := r_CheckHead g m.ai m.se m.da
  rw [chkMs_eq]
  by_cases hk : m.ki = REQ ∨ m.ki = ANS
  · have h3 := r_CheckLines g m.ki hk m.ls hl
    have hm : msgB m.ki = true := by
      unfold msgB
      rcases hk with hk | hk <;> simp [hk]
    rw [hm]
    generalize headE m.ai m.se m.da = b at *
    generalize chkLs m.ki none 0 m.ls = c at *
    by_cases hb : b = 0
    · subst hb
      by_cases hn : 64 < m.ls.length
      · rw [if_pos hn]
        rcases hk with hk | hk
        · repeat' ((conv => whnf); first
          | (refine Br.tt ?_)
          | (refine Br.ff ?_)
          | (refine Need.mk (by first | omega | (simp; done) | (simp; omega)) ?_)
          | (refine Wr.keep (by omega) ?_)
          | (refine Cmp.tt (by first | omega | decide) ?_)
          | (refine Cmp.ff (by first | omega | decide) ?_)
          | (refine Rem.pos (by omega) ?_)
          | (refine Quo.pos (by omega) ?_)
          | (refine PickV.now rfl ?_)
          | (refine Pick.now rfl ?_)
          | (refine Chk.mk rfl ?_)
          | (refine PickW.now (by first | omega | decide) rfl ?_)
            | (apply CallI.of; assumption)
            | (refine Cmp.tt hk ?_)
            | (refine Cmp.ff (by rw [hk]; decide) ?_)
            | (refine Ret.mk rfl))
        · repeat' ((conv => whnf); first
          | (refine Br.tt ?_)
          | (refine Br.ff ?_)
          | (refine Need.mk (by first | omega | (simp; done) | (simp; omega)) ?_)
          | (refine Wr.keep (by omega) ?_)
          | (refine Cmp.tt (by first | omega | decide) ?_)
          | (refine Cmp.ff (by first | omega | decide) ?_)
          | (refine Rem.pos (by omega) ?_)
          | (refine Quo.pos (by omega) ?_)
          | (refine PickV.now rfl ?_)
          | (refine Pick.now rfl ?_)
          | (refine Chk.mk rfl ?_)
          | (refine PickW.now (by first | omega | decide) rfl ?_)
            | (apply CallI.of; assumption)
            | (refine Cmp.tt hk ?_)
            | (refine Cmp.ff (by rw [hk]; decide) ?_)
            | (refine Ret.mk rfl))
      · rw [if_neg hn]
        rcases hk with hk | hk
        · repeat' ((conv => whnf); first
          | (refine Br.tt ?_)
          | (refine Br.ff ?_)
          | (refine Need.mk (by first | omega | (simp; done) | (simp; omega)) ?_)
          | (refine Wr.keep (by omega) ?_)
          | (refine Cmp.tt (by first | omega | decide) ?_)
          | (refine Cmp.ff (by first | omega | decide) ?_)
          | (refine Rem.pos (by omega) ?_)
          | (refine Quo.pos (by omega) ?_)
          | (refine PickV.now rfl ?_)
          | (refine Pick.now rfl ?_)
          | (refine Chk.mk rfl ?_)
          | (refine PickW.now (by first | omega | decide) rfl ?_)
            | (apply CallI.of; assumption)
            | (refine Cmp.tt hk ?_)
            | (refine Cmp.ff (by rw [hk]; decide) ?_)
            | (refine Ret.mk rfl))
        · repeat' ((conv => whnf); first
          | (refine Br.tt ?_)
          | (refine Br.ff ?_)
          | (refine Need.mk (by first | omega | (simp; done) | (simp; omega)) ?_)
          | (refine Wr.keep (by omega) ?_)
          | (refine Cmp.tt (by first | omega | decide) ?_)
          | (refine Cmp.ff (by first | omega | decide) ?_)
          | (refine Rem.pos (by omega) ?_)
          | (refine Quo.pos (by omega) ?_)
          | (refine PickV.now rfl ?_)
          | (refine Pick.now rfl ?_)
          | (refine Chk.mk rfl ?_)
          | (refine PickW.now (by first | omega | decide) rfl ?_)
            | (apply CallI.of; assumption)
            | (refine Cmp.tt hk ?_)
            | (refine Cmp.ff (by rw [hk]; decide) ?_)
            | (refine Ret.mk rfl))
    · have e : ∀ x, firstI [if (!true) = true then 13 else 0, b, x] = b := fun x => by simp [firstI, hb]
      rw [e, if_neg hb]
      rcases hk with hk | hk
      · repeat' ((conv => whnf); first
        | (refine Br.tt ?_)
        | (refine Br.ff ?_)
        | (refine Need.mk (by first | omega | (simp; done) | (simp; omega)) ?_)
        | (refine Wr.keep (by omega) ?_)
        | (refine Cmp.tt (by first | omega | decide) ?_)
        | (refine Cmp.ff (by first | omega | decide) ?_)
        | (refine Rem.pos (by omega) ?_)
        | (refine Quo.pos (by omega) ?_)
        | (refine PickV.now rfl ?_)
        | (refine Pick.now rfl ?_)
        | (refine Chk.mk rfl ?_)
        | (refine PickW.now (by first | omega | decide) rfl ?_)
          | (apply CallI.of; assumption)
          | (refine Cmp.tt hk ?_)
          | (refine Cmp.ff (by assumption) ?_)
          | (refine Cmp.ff (by rw [hk]; decide) ?_)
          | (refine Ret.mk rfl))
      · repeat' ((conv => whnf); first
        | (refine Br.tt ?_)
        | (refine Br.ff ?_)
        | (refine Need.mk (by first | omega | (simp; done) | (simp; omega)) ?_)
        | (refine Wr.keep (by omega) ?_)
        | (refine Cmp.tt (by first | omega | decide) ?_)
        | (refine Cmp.ff (by first | omega | decide) ?_)
        | (refine Rem.pos (by omega) ?_)
        | (refine Quo.pos (by omega) ?_)
        | (refine PickV.now rfl ?_)
        | (refine Pick.now rfl ?_)
        | (refine Chk.mk rfl ?_)
        | (refine PickW.now (by first | omega | decide) rfl ?_)
          | (apply CallI.of; assumption)
          | (refine Cmp.tt hk ?_)
          | (refine Cmp.ff (by assumption) ?_)
          | (refine Cmp.ff (by rw [hk]; decide) ?_)
          | (refine Ret.mk rfl))
  · rw [not_or] at hk
    have hm : msgB m.ki = false := by
      unfold msgB
      simp [hk.1, hk.2]
    rw [hm]
    repeat' ((conv => whnf); first
      | (refine Br.tt ?_)
      | (refine Br.ff ?_)
      | (refine Need.mk (by first | omega | (simp; done) | (simp; omega)) ?_)
      | (refine Wr.keep (by omega) ?_)
      | (refine Cmp.tt (by first | omega | decide) ?_)
      | (refine Cmp.ff (by first | omega | decide) ?_)
      | (refine Rem.pos (by omega) ?_)
      | (refine Quo.pos (by omega) ?_)
      | (refine PickV.now rfl ?_)
      | (refine Pick.now rfl ?_)
      | (refine Chk.mk rfl ?_)
      | (refine PickW.now (by first | omega | decide) rfl ?_)
      | (refine Cmp.ff hk.1 ?_)
      | (refine Cmp.ff hk.2 ?_)
      | (refine Ret.mk rfl))
end
end Go.Proofs.YtgncpnnakchodaaGreatDoor.Co

